/- The law NetBack, of plain lists. -/
import Derived.Test.YtgnjbiofjjcioaaPAx4
import Derived.Test.YtgnjbiofjjcioaaXSpoil
namespace Go.Proofs.Ytgnjbiofjjcioaa.Pure
open Go.RowKit Go.Proofs.Ytgnjbiofjjcioaa.PA Go.Proofs.YtgnjbiofjjcioaaW.PrintWords Go.Proofs.YtgnjbiofjjcioaaW.PrintLast Go.Proofs.Ytgnjbiofjjcioaa.XV22 Go.Proofs.Ytgnjbiofjjcioaa.XSpoil Go.Proofs.Ytgnjbiofjjcioaa.XCorrupt
set_option linter.unusedVariables false
set_option linter.unusedSimpArgs false
theorem back1 (l : List ByteArray) (i p : Nat) (m : Int) (hl : l.length ≤ 30) (hi : i < l.length) (hp : p < l[i].size) (hs : l[i].size ≤ 100) (hm : 1 ≤ m ∧ m ≤ 255) :
    ∀ (d k j : Nat), j + d = l[i].size → d + 200 ≤ k → rollcalllaw22_NetBack.l1 k l (i : Int) (l.set i (spoil l[i] p m)) (if j ≤ p then 0 else 1) (j : Int) = some true
  | 0, k, j, hj, hk => by
    obtain ⟨k, rfl⟩ : ∃ n, k = n + 1 := ⟨k - 1, by omega⟩
    have hj2 : ¬ j ≤ p := by omega
    rw [if_neg hj2, rollcalllaw22_NetBack.l1, if_pos (by omega), if_pos (by omega), rdOf_get l i hi, if_neg (by omega), if_pos rfl, live_f k (by omega)]
    rfl
  | d + 1, k, j, hj, hk => by
    obtain ⟨k, rfl⟩ : ∃ n, k = n + 1 := ⟨k - 1, by omega⟩
    have hi2 : i < (l.set i (spoil l[i] p m)).length := by rw [List.length_set]; exact hi
    rw [rollcalllaw22_NetBack.l1, if_pos (by omega), if_pos (by omega), rdOf_get l i hi, if_pos (by omega), if_pos (by rw [List.length_set]; omega), if_pos (by omega), rdOf_get _ i hi2, List.getElem_set_self, spoil_size, if_pos (by omega), bt_spoil _ p m (by omega) j (by omega), wrap_id _ (by omega) (by omega)]
    have ih := back1 l i p m hl hi hp hs hm d k (j + 1) (by omega) (by omega)
    by_cases c : p = j
    · subst c
      rw [if_pos rfl, if_neg (xor_ne _ _ (bt_range _ _) hm), if_pos (Nat.le_refl _)]
      rw [if_neg (by omega)] at ih
      rw [wrap_id ((0 : Int) + 1) (by omega) (by omega)]
      exact ih
    · rw [if_neg c, if_pos rfl]
      by_cases c2 : j ≤ p
      · rw [if_pos c2]
        rw [if_pos (by omega)] at ih
        exact ih
      · rw [if_neg c2]
        rw [if_neg (by omega)] at ih
        exact ih
theorem back0 (l : List ByteArray) (i p : Nat) (m : Int) (hl : l.length ≤ 30) (hi : i < l.length) (hp : p < l[i].size) (hs : l[i].size ≤ 100) (hm : 1 ≤ m ∧ m ≤ 255) :
    ∀ (d k j : Nat), j + d = l.length → d + 1000 ≤ k → rollcalllaw22_NetBack.l0 k l (i : Int) (l.set i (spoil l[i] p m)) (j : Int) = some true
  | 0, k, j, hj, hk => by
    obtain ⟨k, rfl⟩ : ∃ n, k = n + 1 := ⟨k - 1, by omega⟩
    have h := back1 l i p m hl hi hp hs hm l[i].size k 0 (by omega) (by omega)
    rw [if_pos (by omega)] at h
    rw [rollcalllaw22_NetBack.l0, if_neg (by omega)]
    exact h
  | d + 1, k, j, hj, hk => by
    obtain ⟨k, rfl⟩ : ∃ n, k = n + 1 := ⟨k - 1, by omega⟩
    have ih := back0 l i p m hl hi hp hs hm d k (j + 1) (by omega) (by omega)
    have h1 : j < l.length := by omega
    have h2 : j < (l.set i (spoil l[i] p m)).length := by rw [List.length_set]; exact h1
    rw [rollcalllaw22_NetBack.l0, if_pos (by omega), wrap_id _ (by omega) (by omega)]
    by_cases c : (j : Int) = (i : Int)
    · rw [if_pos c]; exact ih
    · rw [if_neg c, if_pos (by omega), if_pos (by omega), rdOf_get l j h1, rdOf_get _ j h2, List.getElem_set_ne (by omega), if_pos rfl]
      exact ih
theorem NetBack : rollcalllaw22_NetBack.Pure := by
  intro l a1 p m _ _ _ _ _
  refine ⟨3001, ?_⟩
  unfold rollcalllaw22_NetBack.f
  obtain ⟨b, h1, h2⟩ := few l 30 100 3001 (by omega) (by omega)
  rw [show (30 : Int) = ((30 : Nat) : Int) from rfl, h1]
  simp only [Option.bind_some]
  cases b
  · rw [if_neg (by simp), live_f _ (by omega)]; rfl
  · obtain ⟨hl, hs⟩ := h2 rfl
    have hs' : ∀ x ∈ l, x.size ≤ 1000 := fun x hx => by have := hs x hx; omega
    rw [if_pos rfl, corruptN _ _ _ _ (by omega) hs']
    simp only [Option.bind_some]
    have s1 := same l 3001 (by omega) (by omega)
    have s2 := live_f 3001 (by omega)
    by_cases c : a1 < 0 ∨ a1 ≥ (l.length : Int)
    · have e : C l a1 p m = (l, 6) := by unfold C; rw [if_pos c]
      rw [e, if_neg (by simp), s1]
      simp only [Option.bind_some, s2, ↓reduceIte]
    · obtain ⟨i, rfl⟩ := Int.eq_ofNat_of_zero_le (show 0 ≤ a1 by omega)
      have hi : i < l.length := by omega
      by_cases c2 : (rdOf ByteArray.empty l (i : Int)).size = 0 ∨ p < 0 ∨ m < 1 ∨ m > 255
      · have e : C l (i : Int) p m = (l, 1) := by unfold C; rw [if_neg c, if_pos c2]
        rw [e, if_neg (by simp), s1]
        simp only [Option.bind_some, s2, ↓reduceIte]
      · have hz := hs l[i] (List.getElem_mem hi)
        rw [rdOf_get l i hi] at c2
        obtain ⟨q, hq⟩ : ∃ q, q = (p % (l[i].size : Int)).toNat := ⟨_, rfl⟩
        have hq1 : q < l[i].size := by
          have := Int.emod_lt_of_pos p (show (0 : Int) < (l[i].size : Int) by omega)
          have := Int.emod_nonneg p (show (l[i].size : Int) ≠ 0 by omega)
          omega
        have e : C l (i : Int) p m = (l.set i (spoil l[i] q m), 0) := by
          unfold C; rw [if_neg c, rdOf_get l i hi, if_neg c2, Int.toNat_natCast, ← hq]
        have hset : ∀ x ∈ l.set i (spoil l[i] q m), x.size ≤ 1000 := by
          intro x hx
          rcases List.mem_or_eq_of_mem_set hx with h | rfl
          · exact hs' x h
          · rw [spoil_size]; omega
        have hi2 : i < (l.set i (spoil l[i] q m)).length := by rw [List.length_set]; exact hi
        have e2 : C (l.set i (spoil l[i] q m)) (i : Int) p m = (l, 0) := by
          unfold C
          rw [List.length_set, if_neg c, rdOf_get _ i hi2, List.getElem_set_self, spoil_size, if_neg c2, Int.toNat_natCast, ← hq, spoil_spoil _ _ _ (by omega) hq1, List.set_set, List.set_getElem_self]
        rw [e, if_pos rfl, corruptN _ _ _ _ (by rw [List.length_set]; omega) hset, e2]
        simp only [Option.bind_some]
        rw [if_pos trivial, s1]
        simp only [Option.bind_some]
        rw [if_pos trivial, List.length_set, if_pos rfl, if_neg (by omega), if_neg (by omega), if_pos (by omega), if_pos (by omega), if_pos (by omega), rdOf_get l i hi, rdOf_get _ i hi2, List.getElem_set_self, spoil_size]
        have hb := back0 l i q m (by omega) hi hq1 (by omega) (by omega) l.length 3000 0 (by omega) (by omega)
        rw [show (((l[i].size : Int)) != ((l[i].size : Int))) = false by simp, rollcalllaw22_NetBack.j0, if_neg (by simp)]
        exact hb
end Go.Proofs.Ytgnjbiofjjcioaa.Pure
