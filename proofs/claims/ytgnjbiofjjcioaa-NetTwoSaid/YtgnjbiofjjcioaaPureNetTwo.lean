/- The law NetTwo, of plain lists. -/
import Derived.Test.YtgnjbiofjjcioaaPAx6
import Derived.Test.YtgnjbiofjjcioaaXV22
namespace Go.Proofs.Ytgnjbiofjjcioaa.Pure
open Go.RowKit Go.Proofs.Ytgnjbiofjjcioaa.PA Go.Proofs.YtgnjbiofjjcioaaW.PrintWords Go.Proofs.YtgnjbiofjjcioaaW.PrintLast Go.Proofs.Ytgnjbiofjjcioaa.XV22
set_option linter.unusedVariables false
set_option linter.unusedSimpArgs false
theorem erase_swap (l : List ByteArray) (i j : Nat) (h : i < j) (hj : j < l.length) : (l.eraseIdx i).eraseIdx (j - 1) = (l.eraseIdx j).eraseIdx i := by
  apply List.ext_getElem?
  intro n
  simp only [List.getElem?_eraseIdx]
  (repeat' split) <;> first | rfl | omega | (congr 1; omega)
theorem two (k : Nat) (hk : 3000 ≤ k) (l : List ByteArray) (a1 a2 : Int) (q : Bool) (h : q = false → l.length ≤ 30 ∧ 0 ≤ a1 ∧ a1 < a2 ∧ a2 < (l.length : Int)) : rollcalllaw22_NetTwo.j0 (k + 1) l a1 a2 q = some true := by
  rw [rollcalllaw22_NetTwo.j0]
  cases q
  · obtain ⟨hl, h0, h1, h2⟩ := h rfl
    obtain ⟨i, rfl⟩ := Int.eq_ofNat_of_zero_le h0
    obtain ⟨j, rfl⟩ := Int.eq_ofNat_of_zero_le (show 0 ≤ a2 by omega)
    have hi : i < l.length := by omega
    have hj : j < l.length := by omega
    have ti : T l (i : Int) = (l[i], l.eraseIdx i, 0) := by
      unfold T; rw [if_neg (by omega), rdOf_get l i hi, Int.toNat_natCast]
    have tj : T l (j : Int) = (l[j], l.eraseIdx j, 0) := by
      unfold T; rw [if_neg (by omega), rdOf_get l j hj, Int.toNat_natCast]
    have el : (l.eraseIdx i).length = l.length - 1 := List.length_eraseIdx_of_lt hi
    have el2 : (l.eraseIdx j).length = l.length - 1 := List.length_eraseIdx_of_lt hj
    have tij : T (l.eraseIdx i) ((j : Int) - 1) = (l[j], (l.eraseIdx i).eraseIdx (j - 1), 0) := by
      unfold T
      rw [show (j : Int) - 1 = ((j - 1 : Nat) : Int) by omega, if_neg (by omega), rdOf_get _ (j - 1) (by omega), Int.toNat_natCast, List.getElem_eraseIdx_of_ge (by omega) (by omega)]
      congr 1
      congr 1
      omega
    have tji : T (l.eraseIdx j) (i : Int) = (l[i], (l.eraseIdx j).eraseIdx i, 0) := by
      unfold T
      rw [if_neg (by omega), rdOf_get _ i (by omega), Int.toNat_natCast, List.getElem_eraseIdx_of_lt (by omega) (by omega)]
    have twi : Tw l (i : Int) = (l ++ [l[i]], 0) := by
      unfold Tw; rw [if_neg (by omega), if_neg (by omega), rdOf_get l i hi]
    have td : T (l ++ [l[i]]) (l.length : Int) = (l[i], l, 0) := by
      unfold T
      have hx : l.length < (l ++ [l[i]]).length := by simp
      rw [if_neg (by omega), rdOf_get _ l.length hx, Int.toNat_natCast, List.eraseIdx_append_of_length_le (by omega)]
      simp
    rw [if_neg (by simp), take_f _ _ (by omega), wrap_id _ (by omega) (by omega), ti]
    simp only [Option.bind_some]
    rw [take_f _ _ (by omega), tij]
    simp only [Option.bind_some]
    rw [take_f _ _ (by omega), tj]
    simp only [Option.bind_some]
    rw [take_f _ _ (by omega), tji]
    simp only [Option.bind_some]
    rw [twice_f _ _ (by omega), twi]
    simp only [Option.bind_some]
    rw [drop_f _ _ (by simp; omega), td]
    simp only [Option.bind_some]
    rw [rdOf_get l i hi, rdOf_get l j hj, erase_swap l i j (by omega) hj]
    have s1 := same ((l.eraseIdx j).eraseIdx i) k (by have := List.length_eraseIdx_le (l.eraseIdx j) i; omega) (by omega)
    have s2 := same l k (by omega) (by omega)
    have hk2 := live_f k (by omega)
    have p1 : (0 : Int) ≤ (i : Int) := by omega
    have p2 : (i : Int) < (l.length : Int) := by omega
    have p3 : (0 : Int) ≤ (j : Int) := by omega
    simp only [s1, s2, hk2, Option.bind_some, p1, p2, p3, h2, ↓reduceIte]
  · rw [if_pos rfl, live_f _ (by omega)]; rfl
theorem NetTwo : rollcalllaw22_NetTwo.Pure := by
  intro l0 a1 a2 _ _ _ _
  refine ⟨3001, ?_⟩
  unfold rollcalllaw22_NetTwo.f
  obtain ⟨b, h1, h2⟩ := few l0 30 100 3001 (by omega) (by omega)
  rw [show (30 : Int) = ((30 : Nat) : Int) from rfl, h1]
  simp only [Option.bind_some]
  cases b
  · rw [if_neg (by simp)]; exact two 3000 (by omega) _ _ _ _ (by simp)
  · have := (h2 rfl).1
    rw [if_pos rfl]
    by_cases c1 : a1 < 0
    · rw [if_pos c1]; exact two 3000 (by omega) _ _ _ _ (by simp)
    · rw [if_neg c1]
      by_cases c2 : a2 ≤ a1
      · rw [if_pos c2]; exact two 3000 (by omega) _ _ _ _ (by simp)
      · rw [if_neg c2]; exact two 3000 (by omega) _ _ _ _ (fun h => by simp at h; omega)
end Go.Proofs.Ytgnjbiofjjcioaa.Pure
