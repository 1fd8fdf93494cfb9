/- The law NetDoes, of plain lists. -/
import Derived.Test.YtgnjbiofjjcioaaPAx3
import Derived.Test.YtgnjbiofjjcioaaXV22
namespace Go.Proofs.Ytgnjbiofjjcioaa.Pure
open Go.RowKit Go.Proofs.Ytgnjbiofjjcioaa.PA Go.Proofs.YtgnjbiofjjcioaaW.PrintWords Go.Proofs.YtgnjbiofjjcioaaW.PrintLast Go.Proofs.Ytgnjbiofjjcioaa.XV22
set_option linter.unusedVariables false
set_option linter.unusedSimpArgs false
theorem NetDoes : rollcalllaw22_NetDoes.Pure := by
  intro l0 a1_0 a1_1 a1_2 a1_3 a1_4 a1_5 a1_6 a1_7 a1_8 a1_9 a1_10 a1_11 a1_12 a2 _ _ _ _ _ _ _ _ _ _ _ _ _ _ _ _
  refine ⟨3000, ?_⟩
  unfold rollcalllaw22_NetDoes.f
  obtain ⟨b, h1, h2⟩ := few l0 510 100 3000 (by omega) (by omega)
  rw [show (510 : Int) = ((510 : Nat) : Int) from rfl, h1]
  simp only [Option.bind_some]
  cases b
  · rw [if_neg (by simp), live_f _ (by omega)]; rfl
  · obtain ⟨hl, hs⟩ := h2 rfl
    have hs' : ∀ x ∈ l0, x.size ≤ 1000 := fun x hx => by have := hs x hx; omega
    obtain ⟨r, e1, e2, e3⟩ := act 3000 l0 a1_0 a1_1 a1_2 a1_3 a1_4 a1_5 a1_6 a1_7 a1_8 a1_9 a1_10 a1_11 a1_12 (by omega) (by omega) hs'
    rw [if_pos rfl, e1, e2, corruptN _ _ _ _ (by omega) hs', corruptR _ _ _ _ (by omega) hs']
    have s1 := same r.1 3000 (by omega) (by omega)
    have s2 := same (C l0 a1_10 a2 a1_11).1 3000 (by rw [C_len]; omega) (by omega)
    have s3 := live_f 3000 (by omega)
    simp only [Option.bind_some, s1, s2, s3, ↓reduceIte]
end Go.Proofs.Ytgnjbiofjjcioaa.Pure
