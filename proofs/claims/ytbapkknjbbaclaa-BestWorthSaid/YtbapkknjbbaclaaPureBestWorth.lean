/- The law BestWorth, of plain numbers. -/
import Derived.Test.YtbapkknjbbaclaaPAx12
namespace Go.Proofs.Ytbapkknjbbaclaa.Pure
open Go.RowKit Go.Proofs.Ytbapkknjbbaclaa.PA Go.Proofs.YtbapkknjbbaclaaW.PrintWords Go.Proofs.YtbapkknjbbaclaaW.PrintLast
open Go.Proofs.Ytbapkknjbbaclaa.XBetter (cmpI)
set_option linter.unusedVariables false
set_option linter.unusedSimpArgs false
theorem wrap_id (n : Int) (h0 : -9223372036854775808 ≤ n) (h1 : n ≤ 9223372036854775807) : wrap64 n = n := by unfold wrap64; omega
theorem live_100 : rollcalllaw11_live.f 100 = some true := by kernel_rfl
theorem live_f (k : Nat) (hk : 100 ≤ k) : rollcalllaw11_live.f k = some true := at_rounds rollcalllaw11_live.mono hk live_100
theorem cmp_spec (x y : Int) : (cmpI x y = -1 ∧ x < y) ∨ (cmpI x y = 1 ∧ x > y) ∨ (cmpI x y = 0 ∧ x = y) := by
  unfold cmpI
  split
  · exact .inl ⟨rfl, by assumption⟩
  · split
    · exact .inr (.inl ⟨rfl, by assumption⟩)
    · exact .inr (.inr ⟨rfl, by omega⟩)
def Wo (a0 a1 b0 b1 : Int) : Int := cmpI (2 * cmpI a0 b0 + cmpI a1 b1) 0
theorem Wo_swap (a0 a1 b0 b1 : Int) : Wo a0 a1 b0 b1 = -Wo b0 b1 a0 a1 := by
  unfold Wo
  have h1 := cmp_spec a0 b0
  have h2 := cmp_spec b0 a0
  have h3 := cmp_spec a1 b1
  have h4 := cmp_spec b1 a1
  have e1 : cmpI b0 a0 = -cmpI a0 b0 := by omega
  have e2 : cmpI b1 a1 = -cmpI a1 b1 := by omega
  rw [e1, e2]
  have h5 := cmp_spec (2 * cmpI a0 b0 + cmpI a1 b1) 0
  have h6 := cmp_spec (2 * -cmpI a0 b0 + -cmpI a1 b1) 0
  omega
theorem Wo_self (a0 a1 : Int) : Wo a0 a1 a0 a1 = 0 := by
  have := Wo_swap a0 a1 a0 a1
  omega
theorem Wo_range (a0 a1 b0 b1 : Int) : -1 ≤ Wo a0 a1 b0 b1 ∧ Wo a0 a1 b0 b1 ≤ 1 := by
  unfold Wo
  have := cmp_spec (2 * cmpI a0 b0 + cmpI a1 b1) 0
  omega
theorem Wo_trans (a0 a1 b0 b1 c0 c1 : Int) (h1 : 0 ≤ Wo a0 a1 b0 b1) (h2 : 0 ≤ Wo b0 b1 c0 c1) : Wo a0 a1 b0 b1 ≤ Wo a0 a1 c0 c1 ∧ Wo b0 b1 c0 c1 ≤ Wo a0 a1 c0 c1 := by
  unfold Wo at *
  have s1 := cmp_spec (2 * cmpI a0 b0 + cmpI a1 b1) 0
  have s2 := cmp_spec (2 * cmpI b0 c0 + cmpI b1 c1) 0
  have s3 := cmp_spec (2 * cmpI a0 c0 + cmpI a1 c1) 0
  generalize cmpI (2 * cmpI a0 b0 + cmpI a1 b1) 0 = x at *
  generalize cmpI (2 * cmpI b0 c0 + cmpI b1 c1) 0 = y at *
  generalize cmpI (2 * cmpI a0 c0 + cmpI a1 c1) 0 = z at *
  rcases cmp_spec a0 b0 with ⟨e1, l1⟩ | ⟨e1, l1⟩ | ⟨e1, l1⟩ <;> rcases cmp_spec b0 c0 with ⟨e2, l2⟩ | ⟨e2, l2⟩ | ⟨e2, l2⟩ <;> rcases cmp_spec a1 b1 with ⟨e3, l3⟩ | ⟨e3, l3⟩ | ⟨e3, l3⟩ <;> rcases cmp_spec b1 c1 with ⟨e4, l4⟩ | ⟨e4, l4⟩ | ⟨e4, l4⟩ <;> rw [e1, e3] at s1 <;> rw [e2, e4] at s2 <;> first
    | (exfalso; omega)
    | (have s4 := cmp_spec a0 c0; have s5 := cmp_spec a1 c1; generalize cmpI a0 c0 = u at *; generalize cmpI a1 c1 = v at *; omega)
theorem worth0 (k : Nat) (hk : 100 ≤ k) (q : Bool) (a0 a1 a2 : Int) (a3 : ByteArray) (b0 b1 b2 : Int) (b3 : ByteArray) (c0 c1 c2 : Int) (c3 : ByteArray) : rollcalllaw11_BestWorth.j0 (k + 1) q a0 a1 a2 a3 b0 b1 b2 b3 c0 c1 c2 c3 = some true := by
  rw [rollcalllaw11_BestWorth.j0]
  have hl := live_f k hk
  cases q
  · rw [if_neg (by simp)]
    have w : ∀ x0 x1 x2 x3 y0 y1 y2 y3, best_Worth.f x0 x1 x2 x3 y0 y1 y2 y3 = some (Wo x0 x1 y0 y1) := fun _ _ _ _ _ _ _ _ => rfl
    have r1 := Wo_range a0 a1 b0 b1
    have r2 := Wo_range b0 b1 a0 a1
    simp only [w, Option.bind_some]
    rw [wrap_id _ (by omega) (by omega), if_pos (Wo_swap a0 a1 b0 b1), if_pos r1.1, if_pos r1.2, if_pos (Wo_self a0 a1), hl]
    by_cases h1 : Wo a0 a1 b0 b1 < 0
    · rw [if_pos h1]; rfl
    · rw [if_neg h1]
      by_cases h2 : Wo b0 b1 c0 c1 < 0
      · rw [if_pos h2]; rfl
      · rw [if_neg h2, if_pos (by have := Wo_trans a0 a1 b0 b1 c0 c1 (by omega) (by omega); unfold mx; split <;> omega)]; rfl
  · rw [if_pos rfl, hl]; rfl
theorem BestWorth : rollcalllaw11_BestWorth.Pure := by
  intro a0 a1 a2 a3 b0 b1 b2 b3 c0 c1 c2 c3 _ _ _ _ _ _ _ _ _ _ _ _
  refine ⟨101, ?_⟩
  unfold rollcalllaw11_BestWorth.f
  split
  · exact worth0 100 (by omega) _ _ _ _ _ _ _ _ _ _ _ _ _
  · split
    · exact worth0 100 (by omega) _ _ _ _ _ _ _ _ _ _ _ _ _
    · exact worth0 100 (by omega) _ _ _ _ _ _ _ _ _ _ _ _ _
end Go.Proofs.Ytbapkknjbbaclaa.Pure
