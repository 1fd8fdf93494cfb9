/- law10's HeapOrder, walked: of two of unlike ids just one is better. -/
import Derived.Test.YtejhkadalahcjaaXHeapPure
import Derived.Test.YtejhkadalahcjaaXLive10
import Derived.Handy
namespace Go.Proofs.Ytejhkadalahcjaa.XHeap
open Go.RowKit Go.Proofs.YtejhkadalahcjaaW.PrintWords Go.Proofs.YtejhkadalahcjaaW.PrintLast Go.Proofs.YtejhkadalahcjaaW.PrintMore Go.Proofs.Ytejhkadalahcjaa.XBetter Go.Proofs.Ytejhkadalahcjaa.XMap Go.Proofs.Ytejhkadalahcjaa.PA
set_option linter.unusedVariables false
set_option linter.unusedSimpArgs false
theorem eqRk (d : Nat) (x0 x1 x2 y0 y1 y2 : Int) (w : World) : (Op.equalIn (d + 2) 31 (.agg #[.int .i64 x0, .int .i64 x1, .int .i64 x2]) (.agg #[.int .i64 y0, .int .i64 y1, .int .i64 y2])).run Try.prog w = .ok (x0 == y0 && (x1 == y1 && x2 == y2)) w := by
  have hp : ∀ (xs : Array Value) (j : Nat) (v : Value), xs[j]? = some v → (part 3 xs j).run Try.prog w = .ok v w := fun xs j v h => run_part_plain w (by kernel_rfl) h
  have hc : Try.prog.cellsOf 3 = 1 := by kernel_rfl
  have he : ∀ a b : Int, (Op.equalIn (d + 1) 3 (.int .i64 a) (.int .i64 b)).run Try.prog w = .ok (a == b) w := fun a b => run_equalIn_int w d _ _ _ a b Try.underlying3
  obtain ⟨i, hi⟩ : ∃ i, Try.prog.info? 3 = some i := ⟨_, rfl⟩
  rw [show d + 2 = (d + 1) + 1 from rfl, run_equalIn_array w (d + 1) _ _ Try.underlying31 hi, hc, show List.range 3 = [0, 1, 2] from rfl]
  generalize hX : (#[.int .i64 x0, .int .i64 x1, .int .i64 x2] : Array Value) = X
  generalize hY : (#[.int .i64 y0, .int .i64 y1, .int .i64 y2] : Array Value) = Y
  have p0 := hp X 0 (.int .i64 x0) (by rw [← hX]; rfl)
  have p1 := hp X 1 (.int .i64 x1) (by rw [← hX]; rfl)
  have p2 := hp X 2 (.int .i64 x2) (by rw [← hX]; rfl)
  have q0 := hp Y 0 (.int .i64 y0) (by rw [← hY]; rfl)
  have q1 := hp Y 1 (.int .i64 y1) (by rw [← hY]; rfl)
  have q2 := hp Y 2 (.int .i64 y2) (by rw [← hY]; rfl)
  clear hX hY hp
  simp only [Op.eqItems, Sem.run_bind, Nat.mul_one, p0, q0, Result.andThen_ok, he]
  by_cases c0 : x0 = y0 <;> by_cases c1 : x1 = y1 <;> by_cases c2 : x2 = y2 <;> simp [c0, c1, c2, p1, p2, q1, q2, he, Result.andThen_ok]
theorem eqSlD (d : Nat) (i x0 x1 x2 j y0 y1 y2 : Int) (w : World) : (Op.equalIn (d + 3) 33 (.agg #[.int .i64 i, .int .i64 x0, .int .i64 x1, .int .i64 x2]) (.agg #[.int .i64 j, .int .i64 y0, .int .i64 y1, .int .i64 y2])).run Try.prog w = .ok (i == j && (x0 == y0 && (x1 == y1 && x2 == y2))) w := by
  refine eqA_of Try.underlying33 (by kernel_rfl) ?_
  refine eqf_cons (by rfl) (by go_simp; rfl) (by go_simp; rfl) (by go_simp) ?_
  exact eqf_last (by rfl) (by go_simp) (by go_simp) (eqRk d _ _ _ _ _ _ w)
theorem eqSl (i x0 x1 x2 j y0 y1 y2 : Int) (w : World) : (Op.equalIn 10000 33 (.agg #[.int .i64 i, .int .i64 x0, .int .i64 x1, .int .i64 x2]) (.agg #[.int .i64 j, .int .i64 y0, .int .i64 y1, .int .i64 y2])).run Try.prog w = .ok (i == j && (x0 == y0 && (x1 == y1 && x2 == y2))) w :=
  eqSlD 9997 i x0 x1 x2 j y0 y1 y2 w
theorem eqRk9 (x0 x1 x2 y0 y1 y2 : Int) (w : World) : (Op.equalIn 9999 31 (.agg #[.int .i64 x0, .int .i64 x1, .int .i64 x2]) (.agg #[.int .i64 y0, .int .i64 y1, .int .i64 y2])).run Try.prog w = .ok (x0 == y0 && (x1 == y1 && x2 == y2)) w := eqRk 9997 x0 x1 x2 y0 y1 y2 w
theorem slot_eq_true {s t : Slot} (h : s = t) : (s.f0 == t.f0 && (s.f1.f0 == t.f1.f0 && (s.f1.f1 == t.f1.f1 && s.f1.f2 == t.f1.f2))) = true := by subst h; simp
theorem slot_eq_false {s t : Slot} (h : s ≠ t) : (s.f0 == t.f0 && (s.f1.f0 == t.f1.f0 && (s.f1.f1 == t.f1.f1 && s.f1.f2 == t.f1.f2))) = false := by
  cases hb : (s.f0 == t.f0 && (s.f1.f0 == t.f1.f0 && (s.f1.f1 == t.f1.f1 && s.f1.f2 == t.f1.f2))) with
  | false => rfl
  | true =>
    obtain ⟨s0, s1, s2, s3⟩ := s
    obtain ⟨t0, t1, t2, t3⟩ := t
    simp at hb
    obtain ⟨rfl, rfl, rfl, rfl⟩ := hb
    exact absurd rfl h
end Go.Proofs.Ytejhkadalahcjaa.XHeap
