/- The law NetMoves, of plain lists. -/
import Derived.Test.YtgnjbiofjjcioaaPAx3
import Derived.Test.YtgnjbiofjjcioaaXV22
namespace Go.Proofs.Ytgnjbiofjjcioaa.Pure
open Go.RowKit Go.Proofs.Ytgnjbiofjjcioaa.PA Go.Proofs.YtgnjbiofjjcioaaW.PrintWords Go.Proofs.YtgnjbiofjjcioaaW.PrintLast Go.Proofs.Ytgnjbiofjjcioaa.XV22
set_option linter.unusedVariables false
set_option linter.unusedSimpArgs false
theorem moves (k : Nat) (hk : 3000 ≤ k) (l0 l1 : List ByteArray) (a2 : Int) (q : Bool) (h : q = false → l0.length ≤ 30 ∧ l1.length ≤ 30) : rollcalllaw22_NetMoves.j0 (k + 1) l0 l1 a2 q = some true := by
  rw [rollcalllaw22_NetMoves.j0]
  cases q
  · obtain ⟨h0, h1⟩ := h rfl
    have t1 := T_len l0 a2
    have t2 := Tw_len l0 a2
    rw [if_neg (by simp), take_f _ _ (by omega), takeR_f _ _ (by omega), drop_f _ _ (by omega), dropR_f _ _ (by omega), twice_f _ _ (by omega), twiceR_f _ _ _ (by omega) (by omega), send_f _ _ (by omega) (by omega), sendR_f _ _ (by omega) (by omega)]
    have s1 := same (T l0 a2).2.1 k (by omega) (by omega)
    have s2 := same (Tw l0 a2).1 k (by omega) (by omega)
    have s3 := same (l0 ++ l1) k (by rw [List.length_append]; omega) (by omega)
    have s4 := live_f k (by omega)
    simp only [Option.bind_some, s1, s2, s3, s4, ↓reduceIte]
  · rw [if_pos rfl, live_f _ (by omega)]; rfl
theorem NetMoves : rollcalllaw22_NetMoves.Pure := by
  intro l0 l1 a2 _ _ _ _ _
  refine ⟨3001, ?_⟩
  unfold rollcalllaw22_NetMoves.f
  obtain ⟨b, h1, h2⟩ := few l0 30 100 3001 (by omega) (by omega)
  obtain ⟨c, h3, h4⟩ := few l1 30 100 3001 (by omega) (by omega)
  rw [show (30 : Int) = ((30 : Nat) : Int) from rfl, h1]
  simp only [Option.bind_some]
  cases b
  · rw [if_neg (by simp)]; exact moves 3000 (by omega) _ _ _ _ (by simp)
  · rw [if_pos rfl, h3]
    simp only [Option.bind_some]
    refine moves 3000 (by omega) _ _ _ _ (fun h => ⟨(h2 rfl).1, (h4 ?_).1⟩)
    cases c <;> simp at h ⊢
end Go.Proofs.Ytgnjbiofjjcioaa.Pure
