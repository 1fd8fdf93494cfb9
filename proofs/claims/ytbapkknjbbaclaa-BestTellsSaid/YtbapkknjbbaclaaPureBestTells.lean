/- The law BestTells, of plain lists: the program and the reference pick the same session, and tell the same value. -/
import Derived.Test.YtbapkknjbbaclaaPAx10
import Derived.Test.YtbapkknjbbaclaaXV11
import Derived.Test.YtbapkknjbbaclaaXWorth
namespace Go.Proofs.Ytbapkknjbbaclaa.Pure
open Go.RowKit Go.Proofs.Ytbapkknjbbaclaa.PA Go.Proofs.YtbapkknjbbaclaaW.PrintWords Go.Proofs.YtbapkknjbbaclaaW.PrintLast Go.Proofs.Ytbapkknjbbaclaa.XGen Go.Proofs.Ytbapkknjbbaclaa.XSel Go.Proofs.Ytbapkknjbbaclaa.XV11
open Go.Proofs.Ytbapkknjbbaclaa.XBetter (cmpI)
set_option linter.unusedVariables false
set_option linter.unusedSimpArgs false
def Wd (a0 a1 b0 b1 : Int) : Int := cmpI (2 * cmpI a0 b0 + cmpI a1 b1) 0
theorem worth_f (a0 a1 a2 : Int) (a3 : ByteArray) (b0 b1 b2 : Int) (b3 : ByteArray) : best_Worth.f a0 a1 a2 a3 b0 b1 b2 b3 = some (Wd a0 a1 b0 b1) := rfl
theorem Wd_eq (a0 a1 b0 b1 : Int) : Wd a0 a1 b0 b1 = if a0 > b0 ∨ (a0 = b0 ∧ a1 > b1) then 1 else if a0 = b0 ∧ a1 = b1 then 0 else -1 := by
  unfold Wd
  have h1 := cmp_spec a0 b0
  have h2 := cmp_spec a1 b1
  have h3 := cmp_spec (2 * cmpI a0 b0 + cmpI a1 b1) 0
  generalize cmpI (2 * cmpI a0 b0 + cmpI a1 b1) 0 = u at *
  generalize cmpI a0 b0 = x at *
  generalize cmpI a1 b1 = y at *
  split
  · omega
  · split <;> omega
theorem refWorth_f (k : Nat) (a0 a1 a2 : Int) (a3 : ByteArray) (b0 b1 b2 : Int) (b3 : ByteArray) (hk : 1 ≤ k) : rollcallref11_Worth.f k a0 a1 a2 a3 b0 b1 b2 b3 = some (Wd a0 a1 b0 b1) := by
  obtain ⟨k, rfl⟩ : ∃ m, k = m + 1 := ⟨k - 1, by omega⟩
  have key : ∀ q : Bool, (q = true ↔ (a0 > b0 ∨ (a0 = b0 ∧ a1 > b1))) → rollcallref11_Worth.j0 (k + 1) q a0 a1 a2 a3 b0 b1 b2 b3 = some (Wd a0 a1 b0 b1) := by
    intro q hq
    rw [rollcallref11_Worth.j0, Wd_eq]
    by_cases c : a0 > b0 ∨ (a0 = b0 ∧ a1 > b1)
    · rw [if_pos (hq.2 c), if_pos c]
    · rw [if_neg (fun h => c (hq.1 h)), if_neg c]
      by_cases e : (a0 == b0 && (a1 == b1 && (a2 == b2 && (a3.toList == b3.toList)))) = true
      · rw [if_pos e]
        simp only [Bool.and_eq_true, beq_iff_eq] at e
        rw [if_pos ⟨e.1, e.2.1⟩]
      · rw [if_neg e]
        by_cases e0 : a0 = b0
        · rw [if_pos e0]
          by_cases e1 : a1 = b1
          · rw [if_pos e1, if_pos ⟨e0, e1⟩]
          · rw [if_neg e1, if_neg (fun h => e1 h.2)]
        · rw [if_neg e0, if_neg (fun h => e0 h.1)]
  unfold rollcallref11_Worth.f
  by_cases c : a0 > b0
  · rw [if_pos c]
    exact key true (by simp [c])
  · rw [if_neg c]
    by_cases c1 : a0 = b0
    · rw [if_pos c1]
      exact key _ (by simp [c1])
    · rw [if_neg c1]
      exact key false (by simp; omega)
theorem tellsL (l : List Sn) (hl : l.length ≤ 1000) (a0 a1 a2 : Int) (a3 : ByteArray) (b0 b1 b2 : Int) (b3 : ByteArray) : ∀ (d k j : Nat), j + d = l.length → d + 2000 < k →
    rollcalllaw11_BestTells.l0 k l (j : Int) a0 a1 a2 a3 b0 b1 b2 b3 = some true := by
  intro d
  induction d with
  | zero =>
    intro k j hj hk
    obtain ⟨k, rfl⟩ : ∃ m, k = m + 1 := ⟨k - 1, by omega⟩
    rw [rollcalllaw11_BestTells.l0, if_neg (by omega)]
    cases l with
    | nil =>
      rw [best_nil, refBest_nil, value_nil k (by omega), refValue_nil k (by omega), worth_f, refWorth_f k _ _ _ _ _ _ _ _ (by omega), live_f k (by omega)]
      simp
    | cons a t =>
      simp only [List.length_cons] at hl hj
      rw [best_f k a t (by omega) (by omega), refBest_f k a t (by omega) (by omega), value_f k a t (by omega) (by omega), refValue_f k a t (by omega) (by omega), worth_f, refWorth_f k _ _ _ _ _ _ _ _ (by omega), live_f k (by omega)]
      simp
  | succ d ih =>
    intro k j hj hk
    obtain ⟨k, rfl⟩ : ∃ m, k = m + 1 := ⟨k - 1, by omega⟩
    rw [rollcalllaw11_BestTells.l0, if_pos (by omega), if_pos (by omega)]
    simp only [best_Slot.f, rollcallref11_Slot.f, best_Shown.f, rollcallref11_Shown.f, rollcalllaw11_same.f, Option.bind_some, beq_self_eq_true, Bool.and_self, if_true]
    rw [wrap_succ j (by omega)]
    exact ih k (j + 1) (by omega) (by omega)
theorem BestTells : rollcalllaw11_BestTells.Pure := by
  intro l a0 a1 a2 a3 b0 b1 b2 b3 _ _ _ _ _ _ _ _ _ _
  refine ⟨2200, ?_⟩
  unfold rollcalllaw11_BestTells.f
  obtain ⟨b, hb, hl⟩ := few_f 2200 l (by omega)
  rw [hb]
  simp only [Option.bind_some]
  have hj : ∀ q : Bool, (q = false → l.length ≤ 50) → rollcalllaw11_BestTells.j0 2200 l q a0 a1 a2 a3 b0 b1 b2 b3 = some true := by
    intro q hq
    rw [show (2200 : Nat) = 2199 + 1 from rfl, rollcalllaw11_BestTells.j0]
    cases q
    · rw [if_neg (by simp)]
      have := hq rfl
      exact tellsL l (by omega) _ _ _ _ _ _ _ _ l.length 2199 0 (by omega) (by omega)
    · rw [if_pos rfl, live_f 2199 (by omega)]
      rfl
  cases b
  · rw [if_neg (by simp)]
    exact hj _ (fun h => by cases h)
  · rw [if_pos rfl]
    split
    · exact hj _ (fun h => by cases h)
    · exact hj _ (fun _ => hl rfl)
end Go.Proofs.Ytbapkknjbbaclaa.Pure
