-- Written by a program of this session (wip/tools/xprint.py), which drives the kit's print.
import Derived.Test.YtbapkknjbbaclaaPAx0
namespace Go.Proofs.Ytbapkknjbbaclaa.PA
open Go.RowKit Go.Proofs.YtbapkknjbbaclaaW.PrintWords Go.Proofs.YtbapkknjbbaclaaW.PrintLast Go.Proofs.YtbapkknjbbaclaaW.PrintMore
attribute [local go_sem] max2_int min2_int max_two min_two max_three min_three max_four min_four   -- for this text's walks alone
set_option linter.unusedVariables false
set_option linter.unusedSimpArgs false

theorem eqA28 (d : Nat) (w : World) (x0 y0 : Int) (x1 y1 : Int) (x2 y2 : Int) :
    (Op.equalIn (d + 2) 28 (.agg #[.int .i64 x0, .int .i64 x1, .int .i64 x2]) (.agg #[.int .i64 y0, .int .i64 y1, .int .i64 y2])).run Try.prog w = .ok (x0 == y0 && (x1 == y1 && (x2 == y2))) w := by
  have hp : ∀ (xs : Array Value) (j : Nat) (v : Value), xs[j]? = some v → (part 3 xs j).run Try.prog w = .ok v w := fun xs j v h => run_part_plain w (by kernel_rfl) h
  have hc : Try.prog.cellsOf 3 = 1 := by kernel_rfl
  have he : ∀ a b : Int, (Op.equalIn (d + 1) 3 (.int .i64 a) (.int .i64 b)).run Try.prog w = .ok (a == b) w := fun a b => run_equalIn_int w d _ _ _ a b Try.underlying3
  obtain ⟨i, hi⟩ : ∃ i, Try.prog.info? 3 = some i := ⟨_, rfl⟩
  rw [run_equalIn_array w (d + 1) _ _ Try.underlying28 hi, hc, show List.range 3 = [0, 1, 2] from rfl]
  generalize hX : (#[.int .i64 x0, .int .i64 x1, .int .i64 x2] : Array Value) = X
  generalize hY : (#[.int .i64 y0, .int .i64 y1, .int .i64 y2] : Array Value) = Y
  have p0 := hp X 0 (.int .i64 x0) (by rw [← hX]; rfl)
  have q0 := hp Y 0 (.int .i64 y0) (by rw [← hY]; rfl)
  have p1 := hp X 1 (.int .i64 x1) (by rw [← hX]; rfl)
  have q1 := hp Y 1 (.int .i64 y1) (by rw [← hY]; rfl)
  have p2 := hp X 2 (.int .i64 x2) (by rw [← hX]; rfl)
  have q2 := hp Y 2 (.int .i64 y2) (by rw [← hY]; rfl)
  clear hX hY hp
  simp only [Op.eqItems, Sem.run_bind, Nat.mul_one, p0, q0, Result.andThen_ok, he]
  by_cases c0 : x0 = y0 <;> by_cases c1 : x1 = y1 <;> by_cases c2 : x2 = y2 <;> simp [c0, p0, q0, c1, p1, q1, c2, p2, q2, he, Result.andThen_ok]
end Go.Proofs.Ytbapkknjbbaclaa.PA
