/- A presence as bytes, in plain functions: what the printed functions of value, and of its reference, answer. -/
import Derived.Test.YtgchnnkbknaklaaPAx2
import Derived.Test.YtgchnnkbknaklaaPAx3
import Derived.Test.YtgchnnkbknaklaaPAx5
import Derived.Test.YtgchnnkbknaklaaPAx8
import Derived.Test.YtgchnnkbknaklaaPAx4
import Derived.Test.YtgchnnkbknaklaaXCat
import Derived.Test.YtgchnnkbknaklaaXMay
namespace Go.Proofs.Ytgchnnkbknaklaa.XV04
open Go.RowKit Go.Proofs.Ytgchnnkbknaklaa.PA Go.Proofs.YtgchnnkbknaklaaW.PrintWords Go.Proofs.YtgchnnkbknaklaaW.PrintLast Go.Proofs.Ytgchnnkbknaklaa.XVar Go.Proofs.Ytgchnnkbknaklaa.XBytes Go.Proofs.Ytgchnnkbknaklaa.XV01 Go.Proofs.Ytgchnnkbknaklaa.XCat
open Go.Proofs.Ytgchnnkbknaklaa.XMay (mayB numsB)
open Go.Proofs.Ytgchnnkbknaklaa.XOdd (odd)
set_option linter.unusedVariables false
set_option linter.unusedSimpArgs false
theorem may_nums {a0 a1 a2 : Int} {a3 : ByteArray} (h : mayB a0 a1 a2 a3 = true) : 1 ≤ a0 ∧ a0 ≤ 4 ∧ -128 ≤ a1 ∧ a1 ≤ 127 ∧ 0 ≤ a2 ∧ a2 ≤ 1099511627776 ∧ a3.size ≤ 32 := by
  unfold mayB at h
  by_cases c : numsB a0 a1 a2 a3
  · exact c
  · rw [if_neg c] at h; cases h
theorem may_off {a0 a1 a2 : Int} {a3 : ByteArray} (h : ¬ (1 ≤ a0 ∧ a0 ≤ 4 ∧ -128 ≤ a1 ∧ a1 ≤ 127 ∧ 0 ≤ a2 ∧ a2 ≤ 1099511627776 ∧ a3.size ≤ 32)) : mayB a0 a1 a2 a3 = false := by
  unfold mayB
  rw [if_neg (show ¬ numsB a0 a1 a2 a3 from h)]
theorem may_on {a0 a1 a2 : Int} {a3 : ByteArray} (h : 1 ≤ a0 ∧ a0 ≤ 4 ∧ -128 ≤ a1 ∧ a1 ≤ 127 ∧ 0 ≤ a2 ∧ a2 ≤ 1099511627776 ∧ a3.size ≤ 32) : mayB a0 a1 a2 a3 = !((bytesOf a3).any odd) := by
  unfold mayB
  rw [if_pos (show numsB a0 a1 a2 a3 from h)]
theorem may_f (a0 a1 a2 : Int) (a3 : ByteArray) : value_May.f a0 a1 a2 a3 = some (mayB a0 a1 a2 a3) := rfl
theorem bt_bytes (s : ByteArray) (j : Nat) (h : j < s.size) : (bytesOf s).drop j = bt s (j : Int) :: (bytesOf s).drop (j + 1) := by
  rw [List.drop_eq_getElem_cons (by rw [bytesOf_length]; exact h)]
  congr 1
  rw [bt_eq, Int.toNat_natCast]
  unfold bytesOf
  rw [List.getElem_map, List.getD_eq_getElem?_getD, List.getElem?_eq_getElem (by rw [← size_len]; exact h)]
  rfl
theorem refMayL (a0 a1 a2 : Int) (s : ByteArray) (hs : s.size ≤ 1000) : ∀ (d k j : Nat), j + d = s.size → d < k → rollcallref04_May.l0 k (j : Int) a0 a1 a2 s = some (!(((bytesOf s).drop j).any odd)) := by
  intro d
  induction d with
  | zero =>
    intro k j hj hk
    obtain ⟨k, rfl⟩ : ∃ m, k = m + 1 := ⟨k - 1, by omega⟩
    rw [rollcallref04_May.l0, if_neg (by omega), List.drop_eq_nil_of_le (by rw [bytesOf_length]; omega)]
    rfl
  | succ d ih =>
    intro k j hj hk
    obtain ⟨k, rfl⟩ : ∃ m, k = m + 1 := ⟨k - 1, by omega⟩
    rw [rollcallref04_May.l0, if_pos (by omega), if_pos (by omega), bt_bytes s j (by omega), List.any_cons]
    unfold odd
    by_cases c1 : bt s (j : Int) < 32
    · rw [if_pos c1]; simp [c1]
    · rw [if_neg c1]
      by_cases c2 : bt s (j : Int) > 126
      · rw [if_pos c2]; simp [c2]
      · rw [if_neg c2, wrap_id _ (by omega) (by omega), show ((j : Int) + 1) = ((j + 1 : Nat) : Int) by omega, ih k (j + 1) (by omega) (by omega)]
        have e : (decide (bt s (j : Int) < 32) || decide (126 < bt s (j : Int))) = false := by simp; omega
        rw [e]
        rfl
theorem refMay_f (k : Nat) (a0 a1 a2 : Int) (a3 : ByteArray) (hk : 40 ≤ k) : rollcallref04_May.f k a0 a1 a2 a3 = some (mayB a0 a1 a2 a3) := by
  obtain ⟨k, rfl⟩ : ∃ m, k = m + 1 := ⟨k - 1, by omega⟩
  unfold rollcallref04_May.f
  have ht : rollcallref04_May.j0 (k + 1) true a0 a1 a2 a3 = some false := by rw [rollcallref04_May.j0, if_pos rfl]
  by_cases c : 1 ≤ a0 ∧ a0 ≤ 4 ∧ -128 ≤ a1 ∧ a1 ≤ 127 ∧ 0 ≤ a2 ∧ a2 ≤ 1099511627776 ∧ a3.size ≤ 32
  · rw [may_on c, if_neg (by omega), if_neg (by omega), if_neg (by omega), if_neg (by omega), if_neg (by omega), if_neg (by omega), rollcallref04_May.j0, if_neg (by simp; omega)]
    exact refMayL a0 a1 a2 a3 (by omega) a3.size k 0 (by omega) (by omega)
  · rw [may_off c, ht]
    by_cases h1 : a0 < 1
    · rw [if_pos h1]
    rw [if_neg h1]
    by_cases h2 : a0 > 4
    · rw [if_pos h2]
    rw [if_neg h2]
    by_cases h3 : a1 < -128
    · rw [if_pos h3]
    rw [if_neg h3]
    by_cases h4 : a1 > 127
    · rw [if_pos h4]
    rw [if_neg h4]
    by_cases h5 : a2 < 0
    · rw [if_pos h5]
    rw [if_neg h5]
    by_cases h6 : a2 > 1099511627776
    · rw [if_pos h6]
    rw [if_neg h6]
    have e : decide ((a3.size : Int) > 32) = true := by simp; omega
    rw [e, ht]
/-- The bytes of a value that may be. -/
def Vb (a0 a1 a2 : Int) (a3 : ByteArray) : ByteArray := (strOfNums [a0, a1 + 128] ++ P a2) ++ X a3
theorem Vb_size (a0 a1 a2 : Int) (a3 : ByteArray) : (Vb a0 a1 a2 a3).size = 2 + (P a2).size + ((P a3.size).size + a3.size) := by
  unfold Vb
  rw [app_size, app_size, strOfNums_size, X_size]
  rfl
def PV (a0 a1 a2 : Int) (a3 : ByteArray) : ByteArray × Bool := if mayB a0 a1 a2 a3 = true then (Vb a0 a1 a2 a3, true) else (⟨#[]⟩, false)
theorem put_v (k : Nat) (a0 a1 a2 : Int) (a3 : ByteArray) (hk : 10 ≤ k) : value_Put.f k a0 a1 a2 a3 = some (PV a0 a1 a2 a3) := by
  unfold value_Put.f PV
  rw [may_f]
  simp only [Option.bind_some]
  by_cases c : mayB a0 a1 a2 a3 = true
  · obtain ⟨h1, h2, h3, h4, h5, h6, h7⟩ := may_nums c
    have hP := P_le a2
    have hP2 := P_le (a3.size : Int)
    rw [if_pos c, if_pos c, wrap_u64 a2 (by omega) (by omega), put_f k a2 (by omega) (by omega) hk, text_f k a3 (by omega) hk, wrap_id (a1 - -128) (by omega) (by omega), Int.emod_eq_of_lt (by omega) (by omega : a0 < 256), Int.emod_eq_of_lt (by omega) (by omega : a1 - -128 < 256)]
    simp only [Option.bind_some]
    rw [if_pos (by rw [strOfNums_size]; simp; omega), if_pos (by rw [app_size, app_size, strOfNums_size]; simp; omega), show a1 - -128 = a1 + 128 by omega]
    rfl
  · rw [if_neg c, if_neg c]
theorem refPut_v (k : Nat) (a0 a1 a2 : Int) (a3 : ByteArray) (hk : 40 ≤ k) : rollcallref04_Put.f k a0 a1 a2 a3 = some (PV a0 a1 a2 a3) := by
  unfold rollcallref04_Put.f PV
  rw [refMay_f k a0 a1 a2 a3 hk]
  simp only [Option.bind_some]
  by_cases c : mayB a0 a1 a2 a3 = true
  · obtain ⟨h1, h2, h3, h4, h5, h6, h7⟩ := may_nums c
    have hP := P_le a2
    have hP2 := P_le (a3.size : Int)
    rw [if_pos c, if_pos c, wrap_u64 a2 (by omega) (by omega), refPut_f k a2 (by omega) (by omega) (by omega), refText_f k a3 (by omega) (by omega), wrap_id (a1 + 128) (by omega) (by omega), Int.emod_eq_of_lt (by omega) (by omega : a0 < 256), Int.emod_eq_of_lt (by omega) (by omega : a1 + 128 < 256)]
    simp only [Option.bind_some]
    rw [if_pos (by rw [strOfNums_size]; simp; omega), if_pos (by rw [app_size, app_size, strOfNums_size]; simp; omega)]
    rfl
  · rw [if_neg c, if_neg c]
abbrev R6 := Int × Int × Int × ByteArray × Int × Int
def er (e : Int) : R6 := (0, 0, 0, ⟨#[]⟩, 0, e)
def VT (s : ByteArray) (p : Int) : R6 :=
  if p < 0 ∨ p > (s.size : Int) then er 1 else if s.size - p < 2 then er 2 else
  if (G s (p + 2)).2.2 = 0 then
    if (T s (G s (p + 2)).2.1 32).2.2 = 0 then
      if mayB (bt s p) (bt s (p + 1) - 128) (G s (p + 2)).1 (T s (G s (p + 2)).2.1 32).1 = true then (bt s p, bt s (p + 1) - 128, (G s (p + 2)).1, (T s (G s (p + 2)).2.1 32).1, (T s (G s (p + 2)).2.1 32).2.1, 0) else er 3
    else er (T s (G s (p + 2)).2.1 32).2.2
  else er (G s (p + 2)).2.2
theorem wrap_bt (s : ByteArray) (i : Int) : wrap64 (bt s i) = bt s i := by have := bt_range s i; exact wrap_id _ (by omega) (by omega)
theorem take_v (k : Nat) (s : ByteArray) (p : Int) (hs : s.size ≤ 140737488351232) (hp : -9223372036854775808 ≤ p ∧ p ≤ 9223372036854775807) (hk : 31 ≤ k) : value_Take.f k s p = some (VT s p) := by
  obtain ⟨k, rfl⟩ : ∃ m, k = m + 1 := ⟨k - 1, by omega⟩
  have key : ∀ q : Bool, (q = true ↔ (p < 0 ∨ p > (s.size : Int))) → value_Take.j0 (k + 1) s p q = some (VT s p) := by
    intro q hq
    rw [value_Take.j0]
    unfold VT
    by_cases c : p < 0 ∨ p > (s.size : Int)
    · rw [if_pos (hq.2 c), if_pos c]; rfl
    · rw [if_neg (fun h => c (hq.1 h)), if_neg c, wrap_id (s.size - p) (by omega) (by omega)]
      by_cases c2 : (s.size : Int) - p < 2
      · rw [if_pos c2, if_pos c2]; rfl
      · rw [if_neg c2, if_neg c2, wrap_id (p + 2) (by omega) (by omega), get_f s (p + 2) hs]
        simp only [Option.bind_some]
        by_cases c3 : (G s (p + 2)).2.2 = 0
        · rw [if_pos c3, if_pos c3, take_f k s _ 32 hs (by omega) (by omega)]
          simp only [Option.bind_some]
          by_cases c4 : (T s (G s (p + 2)).2.1 32).2.2 = 0
          · have h1 := bt_range s (p + 1)
            rw [if_pos c4, if_pos c4, if_pos (by omega), if_pos (by omega), wrap_id (p + 1) (by omega) (by omega), if_pos (by omega), if_pos (by omega), wrap_bt, wrap_bt, wrap_id (bt s (p + 1) + -128) (by omega) (by omega), may_f]
            simp only [Option.bind_some]
            rw [show bt s (p + 1) + -128 = bt s (p + 1) - 128 by omega]
            rcases G_shape s (p + 2) with ⟨e, h, he⟩ | ⟨n, q, h, hp, h1, h2, h3, h4, _⟩
            · rw [h] at c3; simp only at c3; omega
            · rw [h]
              simp only
              have hmn : wrap64 (mn n 1099511627777) = if n ≤ 1099511627776 then n else 1099511627777 := by
                unfold mn
                split
                · rw [wrap_id 1099511627777 (by omega) (by omega)]; split <;> omega
                · rw [wrap_id n (by omega) (by omega)]; split <;> omega
              rw [hmn]
              by_cases c5 : n ≤ 1099511627776
              · rw [if_pos c5]; split <;> rfl
              · rw [if_neg c5, may_off (by omega), may_off (by omega)]; rfl
          · rw [if_neg c4, if_neg c4]; rfl
        · rw [if_neg c3, if_neg c3]; rfl
  unfold value_Take.f
  by_cases c : p < 0
  · rw [if_pos c, key true (by simp [c])]
  · rw [if_neg c, key _ (by simp [c])]
theorem refTake_v (k : Nat) (s : ByteArray) (p : Int) (hs : s.size ≤ 140737488351232) (hp : -9223372036854775808 ≤ p ∧ p ≤ 9223372036854775807) (hk : 41 ≤ k) : rollcallref04_Take.f k s p = some (VT s p) := by
  obtain ⟨k, rfl⟩ : ∃ m, k = m + 1 := ⟨k - 1, by omega⟩
  have key : ∀ q : Bool, (q = true ↔ (p < 0 ∨ p > (s.size : Int))) → rollcallref04_Take.j0 (k + 1) s p q = some (VT s p) := by
    intro q hq
    rw [rollcallref04_Take.j0]
    unfold VT
    by_cases c : p < 0 ∨ p > (s.size : Int)
    · rw [if_pos (hq.2 c), if_pos c]; rfl
    · rw [if_neg (fun h => c (hq.1 h)), if_neg c, wrap_id (s.size - p) (by omega) (by omega)]
      by_cases c2 : (s.size : Int) - p < 2
      · rw [if_pos c2, if_pos c2]; rfl
      · rw [if_neg c2, if_neg c2, wrap_id (p + 2) (by omega) (by omega), refGet_f k s (p + 2) hs (by omega)]
        simp only [Option.bind_some]
        by_cases c3 : (G s (p + 2)).2.2 = 0
        · rw [if_pos c3, if_pos c3, refTake_f k s _ 32 hs (by omega) (by omega)]
          simp only [Option.bind_some]
          by_cases c4 : (T s (G s (p + 2)).2.1 32).2.2 = 0
          · have h1 := bt_range s (p + 1)
            rw [if_pos c4, if_pos c4]
            rcases G_shape s (p + 2) with ⟨e, h, he⟩ | ⟨n, q, h, hp, h1, h2, h3, h4, _⟩
            · rw [h] at c3; simp only at c3; omega
            · rw [h]
              simp only
              by_cases c5 : n > 1099511627776
              · rw [if_pos c5, may_off (by omega)]; rfl
              · rw [if_neg c5, if_pos (by omega), if_pos (by omega), wrap_id (p + 1) (by omega) (by omega), if_pos (by omega), if_pos (by omega), wrap_bt, wrap_bt, wrap_id (bt s (p + 1) - 128) (by omega) (by omega), wrap_id n (by omega) (by omega), refMay_f k _ _ _ _ (by omega)]
                simp only [Option.bind_some]
                split <;> rfl
          · rw [if_neg c4, if_neg c4]; rfl
        · rw [if_neg c3, if_neg c3]; rfl
  unfold rollcallref04_Take.f
  by_cases c : p < 0
  · rw [if_pos c, key true (by simp [c])]
  · rw [if_neg c, key _ (by simp [c])]
/-- What is put is taken, wherever it stands. -/
theorem VT_put (a b : ByteArray) (a0 a1 a2 : Int) (a3 : ByteArray) (h : mayB a0 a1 a2 a3 = true) : VT ((a ++ Vb a0 a1 a2 a3) ++ b) a.size = (a0, a1, a2, a3, (a.size : Int) + (Vb a0 a1 a2 a3).size, 0) := by
  obtain ⟨h1, h2, h3, h4, h5, h6, h7⟩ := may_nums h
  have hsz := Vb_size a0 a1 a2 a3
  have e1 : ((a ++ Vb a0 a1 a2 a3) ++ b) = (((a ++ strOfNums [a0, a1 + 128]) ++ P a2) ++ (X a3 ++ b)) := by unfold Vb; simp only [app_assoc]
  have e2 : ((a ++ Vb a0 a1 a2 a3) ++ b) = ((((a ++ strOfNums [a0, a1 + 128]) ++ P a2) ++ X a3) ++ b) := by unfold Vb; simp only [app_assoc]
  have e3 : ((a ++ Vb a0 a1 a2 a3) ++ b) = ((a ++ strOfNums [a0, a1 + 128]) ++ ((P a2 ++ X a3) ++ b)) := by unfold Vb; simp only [app_assoc]
  have hr : ∀ x ∈ [a0, a1 + 128], 0 ≤ x ∧ x ≤ 255 := by intro x hx; simp at hx; omega
  have hst : Stands ((a ++ Vb a0 a1 a2 a3) ++ b) (a.size : Int) [a0, a1 + 128] := by
    rw [e3]
    have := stands_more (stands_app (stands_nums _ hr) (Int.le_refl 0) a) (by omega) ((P a2 ++ X a3) ++ b)
    rwa [Int.add_zero] at this
  have b0 : bt ((a ++ Vb a0 a1 a2 a3) ++ b) (a.size : Int) = a0 := hst.head
  have b1 : bt ((a ++ Vb a0 a1 a2 a3) ++ b) ((a.size : Int) + 1) = a1 + 128 := hst.tail.head
  have n2 : (a ++ strOfNums [a0, a1 + 128]).size = a.size + 2 := by rw [app_size, strOfNums_size]; rfl
  have hG : G ((a ++ Vb a0 a1 a2 a3) ++ b) ((a.size : Int) + 2) = (a2, (a.size : Int) + 2 + (P a2).size, 0) := by
    refine G_put _ _ a2 (by omega) h5 (by omega) ?_
    rw [e1]
    have := P_in (a ++ strOfNums [a0, a1 + 128]) (X a3 ++ b) a2 h5
    rwa [n2] at this
  have n3 : ((a ++ strOfNums [a0, a1 + 128]) ++ P a2).size = a.size + 2 + (P a2).size := by rw [app_size, n2]
  have hT : T ((a ++ Vb a0 a1 a2 a3) ++ b) ((a.size : Int) + 2 + (P a2).size) 32 = (a3, (a.size : Int) + 2 + (P a2).size + (X a3).size, 0) := by
    rw [e2]
    have := T_text ((a ++ strOfNums [a0, a1 + 128]) ++ P a2) a3 b 32 (by omega) (by omega)
    rw [n3] at this
    exact this
  have hX := X_size a3
  unfold VT
  rw [if_neg (by rw [app_size, app_size]; omega), if_neg (by rw [app_size, app_size]; omega), hG]
  simp only
  rw [if_pos trivial, hT]
  simp only
  rw [if_pos trivial, b0, b1, show a1 + 128 - 128 = a1 by omega, if_pos h]
  simp only [Prod.mk.injEq, true_and, and_true]
  omega
theorem T_shape (s : ByteArray) (q m : Int) : (∃ e, T s q m = (⟨#[]⟩, 0, e) ∧ e ≠ 0) ∨ ∃ n q', T s q m = (s.extract q'.toNat (q' + n).toNat, q' + n, 0) ∧ 0 ≤ q ∧ q < q' ∧ q' + n ≤ s.size ∧ 0 ≤ n ∧ n ≤ m ∧ n < 18446744073709551616 ∧ q' = q + (digs 10 n).length ∧ Stands s q (digs 10 n) := by
  unfold T
  rcases G_shape s q with ⟨e, h, he⟩ | ⟨n, q', h, hp, h1, h2, h3, h4, hq, hst⟩
  · rw [h]
    simp only
    rw [if_neg (by omega)]
    exact .inl ⟨e, rfl, by omega⟩
  · rw [h]
    simp only
    rw [if_pos trivial]
    by_cases c : m < 0 ∨ n > m
    · rw [if_pos c]; exact .inl ⟨3, rfl, by omega⟩
    · rw [if_neg c]
      by_cases c2 : n > s.size - q'
      · rw [if_pos c2]; exact .inl ⟨2, rfl, by omega⟩
      · rw [if_neg c2]
        exact .inr ⟨n, q', rfl, by omega, by omega, by omega, by omega, by omega, h4, hq, hst⟩
/-- What is taken is what was put. -/
theorem VT_shape (s : ByteArray) (p : Int) (hs : s.size ≤ 140737488351232) : (∃ e, VT s p = er e ∧ e ≠ 0) ∨ ∃ a0 a1 a2 a3 q, VT s p = (a0, a1, a2, a3, q, 0) ∧ mayB a0 a1 a2 a3 = true ∧ 0 ≤ p ∧ p < q ∧ q ≤ s.size ∧ s.extract p.toNat q.toNat = Vb a0 a1 a2 a3 := by
  unfold VT
  by_cases c : p < 0 ∨ p > (s.size : Int)
  · rw [if_pos c]; exact .inl ⟨1, rfl, by omega⟩
  rw [if_neg c]
  by_cases c2 : (s.size : Int) - p < 2
  · rw [if_pos c2]; exact .inl ⟨2, rfl, by omega⟩
  rw [if_neg c2]
  rcases G_shape s (p + 2) with ⟨e, h, he⟩ | ⟨n, q, h, hp, h1, h2, h3, h4, hq, hst⟩
  · rw [h]; simp only; rw [if_neg (by omega)]; exact .inl ⟨e, rfl, by omega⟩
  rw [h]
  simp only
  rw [if_pos trivial]
  rcases T_shape s q 32 with ⟨e, h', he⟩ | ⟨n', q', h', hp', h1', h2', h3', h4', h5', hq', hst'⟩
  · rw [h']; simp only; rw [if_neg he]; exact .inl ⟨e, rfl, he⟩
  rw [h']
  simp only
  rw [if_pos trivial]
  by_cases c5 : mayB (bt s p) (bt s (p + 1) - 128) n (s.extract q'.toNat (q' + n').toNat) = true
  · rw [if_pos c5]
    refine .inr ⟨_, _, _, _, _, rfl, c5, by omega, by omega, by omega, ?_⟩
    have hw := cut_of_stands (by omega) hst
    rw [← hq] at hw
    have hw' := cut_of_stands (by omega) hst'
    rw [← hq'] at hw'
    have hb0 := bt_range s p
    have hb1 := bt_range s (p + 1)
    have h20 : Stands s p [bt s p, bt s (p + 1)] := by
      refine ⟨by simp; omega, fun j hj => ?_⟩
      simp at hj
      rcases (show j = 0 ∨ j = 1 by omega) with rfl | rfl
      · simp
      · simp
    have hw0 := cut_of_stands (by omega) h20
    have hn : (s.extract q'.toNat (q' + n').toNat).size = n'.toNat := by rw [ext_size]; omega
    unfold Vb X P
    rw [hn, show ((n'.toNat : Nat) : Int) = n' by omega, ← hw, ← hw', show bt s (p + 1) - 128 + 128 = bt s (p + 1) by omega, ← hw0]
    apply ba_ext
    simp only [app_data, ext_data, List.length_cons, List.length_nil]
    generalize s.data.toList = l
    obtain ⟨p, rfl⟩ := Int.eq_ofNat_of_zero_le (show 0 ≤ p by omega)
    obtain ⟨q, rfl⟩ := Int.eq_ofNat_of_zero_le (show 0 ≤ q by omega)
    obtain ⟨q', rfl⟩ := Int.eq_ofNat_of_zero_le (show 0 ≤ q' by omega)
    obtain ⟨n', rfl⟩ := Int.eq_ofNat_of_zero_le (show 0 ≤ n' by omega)
    have key : ∀ (a b c : Nat), a ≤ b → b ≤ c → (l.drop a).take (c - a) = (l.drop a).take (b - a) ++ (l.drop b).take (c - b) := by
      intro a b c h1 h2
      rw [show c - a = (b - a) + (c - b) by omega, List.take_add, List.drop_drop, show a + (b - a) = b by omega]
    have t1 : (((p : Int) + 2).toNat) = p + 2 := by omega
    have t2 : (((q' : Int) + (n' : Int)).toNat) = q' + n' := by omega
    have t3 : (((p : Int) + ((0 + 1 + 1 : Nat) : Int)).toNat) = p + 2 := by omega
    simp only [t1, t2, t3, Int.toNat_natCast]
    rw [key p (p + 2) (q' + n') (by omega) (by omega), key (p + 2) q (q' + n') (by omega) (by omega), key q q' (q' + n') (by omega) (by omega)]
    simp only [List.append_assoc]
  · rw [if_neg c5]; exact .inl ⟨3, rfl, by omega⟩
theorem live_100 : rollcalllaw04_live.f 100 = some true := by kernel_rfl
theorem live_f (k : Nat) (hk : 100 ≤ k) : rollcalllaw04_live.f k = some true := at_rounds rollcalllaw04_live.mono hk live_100
end Go.Proofs.Ytgchnnkbknaklaa.XV04
