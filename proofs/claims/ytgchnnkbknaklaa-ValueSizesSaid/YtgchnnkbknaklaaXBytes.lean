/- Bytes at places: of texts that are joined, cut, or made of numbers. No program is in sight. -/
import Derived.Test.YtgchnnkbknaklaaXVar
import Derived.Lib.Strings
namespace Go.Proofs.Ytgchnnkbknaklaa.XBytes
open Go.RowKit Go.Proofs.YtgchnnkbknaklaaW.PrintWords Go.Proofs.YtgchnnkbknaklaaW.PrintLast Go.Proofs.YtgchnnkbknaklaaW.PrintMore Go.Proofs.Ytgchnnkbknaklaa.XVar
set_option linter.unusedVariables false
set_option linter.unusedSimpArgs false

theorem wf_u64 {n : Int} (h : (Lit.int .u64 n).wf = true) : 0 ≤ n ∧ n < 18446744073709551616 := by
  simp [Lit.wf, IntKind.min, IntKind.max, IntKind.bits, IntKind.signed] at h
  omega
theorem wf_i64 {n : Int} (h : (Lit.int .i64 n).wf = true) : -9223372036854775808 ≤ n ∧ n ≤ 9223372036854775807 := by
  simp [Lit.wf, IntKind.min, IntKind.max, IntKind.bits, IntKind.signed] at h
  omega
theorem wf_u8 {n : Int} (h : (Lit.int .u8 n).wf = true) : 0 ≤ n ∧ n ≤ 255 := by
  simp [Lit.wf, IntKind.min, IntKind.max, IntKind.bits, IntKind.signed] at h
  omega
theorem size_len (s : ByteArray) : s.size = s.data.toList.length := by rw [Array.length_toList]; rfl
theorem ba_ext {a b : ByteArray} (h : a.data.toList = b.data.toList) : a = b := by
  apply ByteArray.ext
  exact Array.toList_inj.1 h
theorem ba_ext' {a b : ByteArray} (h : a.toList = b.toList) : a = b := ba_ext (by rw [← Lib.toList_data, ← Lib.toList_data]; exact h)
theorem toList_inj {a b : ByteArray} : a.toList = b.toList ↔ a = b := ⟨ba_ext', fun h => by rw [h]⟩
theorem app_data (a b : ByteArray) : (a ++ b).data.toList = a.data.toList ++ b.data.toList := by simp [ByteArray.data_append]
theorem app_size (a b : ByteArray) : (a ++ b).size = a.size + b.size := ByteArray.size_append ..
theorem app_assoc (a b c : ByteArray) : (a ++ b) ++ c = a ++ (b ++ c) := ba_ext (by simp only [app_data, List.append_assoc])
theorem ext_data (s : ByteArray) (a b : Nat) : (s.extract a b).data.toList = (s.data.toList.drop a).take (b - a) := Lib.extract_data s a b
theorem ext_size (s : ByteArray) (a b : Nat) : (s.extract a b).size = min b s.size - a := ByteArray.size_extract
theorem bt_eq (s : ByteArray) (i : Int) : bt s i = ((s.data.toList.getD i.toNat 0).toNat : Int) := by
  unfold bt
  rw [List.getD_eq_getElem?_getD]
  split
  · rename_i h
    rw [List.getElem?_eq_getElem (by rw [← size_len]; exact h)]
    rfl
  · rename_i h
    rw [List.getElem?_eq_none (by rw [← size_len]; omega)]
    rfl
theorem bt_app_left (a b : ByteArray) (i : Int) (h0 : 0 ≤ i) (h : i < a.size) : bt (a ++ b) i = bt a i := by
  rw [bt_eq, bt_eq, app_data, List.getD_eq_getElem?_getD, List.getD_eq_getElem?_getD, List.getElem?_append_left (by rw [← size_len]; omega)]
theorem bt_app_right (a b : ByteArray) (i : Int) (h : 0 ≤ i) : bt (a ++ b) (a.size + i) = bt b i := by
  rw [bt_eq, bt_eq, app_data, List.getD_eq_getElem?_getD, List.getD_eq_getElem?_getD, List.getElem?_append_right (by rw [← size_len]; omega), ← size_len, show (a.size + i).toNat - a.size = i.toNat by omega]
theorem bt_ext (s : ByteArray) (a b : Nat) (i : Int) (h : 0 ≤ i) (h1 : a + i < b) : bt (s.extract a b) i = bt s (a + i) := by
  rw [bt_eq, bt_eq, ext_data, List.getD_eq_getElem?_getD, List.getD_eq_getElem?_getD, List.getElem?_take, if_pos (by omega), List.getElem?_drop, show (a + i : Int).toNat = a + i.toNat by omega]
theorem bt_nums (l : List Int) (hl : ∀ x ∈ l, 0 ≤ x ∧ x ≤ 255) (j : Nat) (h : j < l.length) : bt (strOfNums l) j = l[j] := by
  rw [bt_eq, strOfNums_data, List.getD_eq_getElem?_getD, List.getElem?_map, Int.toNat_natCast, List.getElem?_eq_getElem h]
  have := hl l[j] (List.getElem_mem h)
  simp only [Option.map_some, Option.getD_some]
  rw [UInt8.toNat_ofNat_of_lt' (by show l[j].toNat < 256; omega)]
  omega
theorem stands_nums (l : List Int) (hl : ∀ x ∈ l, 0 ≤ x ∧ x ≤ 255) : Stands (strOfNums l) 0 l :=
  ⟨by rw [strOfNums_size]; omega, fun j h => by rw [Int.zero_add]; exact bt_nums l hl j h⟩
theorem stands_app {b : ByteArray} {p : Int} {l : List Int} (h : Stands b p l) (hp : 0 ≤ p) (a : ByteArray) : Stands (a ++ b) (a.size + p) l := by
  refine ⟨by have := h.1; rw [app_size]; omega, fun j hj => ?_⟩
  rw [Int.add_assoc, bt_app_right a b (p + j) (by omega)]
  exact h.2 j hj
theorem stands_more {a : ByteArray} {p : Int} {l : List Int} (h : Stands a p l) (hp : 0 ≤ p) (b : ByteArray) : Stands (a ++ b) p l := by
  refine ⟨by have := h.1; rw [app_size]; omega, fun j hj => ?_⟩
  have h1 := h.1
  rw [bt_app_left a b (p + j) (by omega) (by omega)]
  exact h.2 j hj
theorem ofNat_eq_of {x : Int} {u : UInt8} (h : (u.toNat : Int) = x) : UInt8.ofNat x.toNat = u := by
  rw [← h, Int.toNat_natCast]
  exact UInt8.ofNat_toNat
theorem cut_of_stands {s : ByteArray} {p : Int} {l : List Int} (hp : 0 ≤ p) (h : Stands s p l) : s.extract p.toNat (p + l.length).toNat = strOfNums l := by
  apply ba_ext
  rw [ext_data, strOfNums_data]
  have h1 := h.1
  have h2 := size_len s
  apply List.ext_getElem
  · rw [List.length_take, List.length_drop, List.length_map, ← size_len]
    omega
  · intro j hj hj'
    rw [List.length_map] at hj'
    rw [List.getElem_take, List.getElem_drop, List.getElem_map]
    have h3 := h.2 j hj'
    rw [bt_eq, List.getD_eq_getElem?_getD, List.getElem?_eq_getElem (by omega)] at h3
    symm
    apply ofNat_eq_of
    rw [← h3]
    simp only [Option.getD_some, show (p + j : Int).toNat = p.toNat + j by omega]
theorem nums_inj {l l' : List Int} (hl : ∀ x ∈ l, 0 ≤ x ∧ x ≤ 255) (hl' : ∀ x ∈ l', 0 ≤ x ∧ x ≤ 255) (h : strOfNums l = strOfNums l') : l = l' := by
  have e : l.length = l'.length := by rw [← strOfNums_size, h, strOfNums_size]
  apply List.ext_getElem e
  intro j h1 h2
  rw [← bt_nums l hl j h1, h, bt_nums l' hl' j h2]
theorem nums_take (l : List Int) (n : Nat) : (strOfNums l).extract 0 n = strOfNums (l.take n) := by
  apply ba_ext
  rw [ext_data, strOfNums_data, strOfNums_data, List.drop_zero, Nat.sub_zero, List.map_take]
/-- What stands begins with one another: then they are one. -/
theorem digs_prefix : ∀ (d : Nat) (a b : Int), 0 ≤ a → 0 ≤ b → a < pw d → b < pw d → digs d a <+: digs d b → a = b
  | 0, a, b, h1, h2, h3, h4, _ => by simp only [pw] at h3 h4; omega
  | d + 1, a, b, h1, h2, h3, h4, h => by
    rw [digs, digs] at h
    by_cases ca : a ≥ 128 <;> by_cases cb : b ≥ 128
    · rw [if_pos ca, if_pos cb, List.cons_prefix_cons] at h
      have := digs_prefix d (a / 128) (b / 128) (by omega) (by omega) (by simp only [pw] at h3; omega) (by simp only [pw] at h4; omega) h.2
      omega
    · rw [if_pos ca, if_neg cb, List.cons_prefix_cons] at h
      omega
    · rw [if_neg ca, if_pos cb, List.cons_prefix_cons] at h
      omega
    · rw [if_neg ca, if_neg cb, List.cons_prefix_cons] at h
      omega
theorem digs_mono : ∀ (d : Nat) (a b : Int), 0 ≤ a → a ≤ b → b < pw d → (digs d a).length ≤ (digs d b).length
  | 0, a, b, _, _, _ => by simp [digs]
  | d + 1, a, b, h0, h, hb => by
    rw [digs, digs]
    by_cases ca : a ≥ 128 <;> by_cases cb : b ≥ 128
    · rw [if_pos ca, if_pos cb]
      have := digs_mono d (a / 128) (b / 128) (by omega) (by omega) (by simp only [pw] at hb; omega)
      simp only [List.length_cons]
      omega
    · omega
    · rw [if_neg ca, if_pos cb]
      simp
    · rw [if_neg ca, if_neg cb]
      simp
open Go.Proofs.Ytgchnnkbknaklaa.XGet in
/-- A number's bytes cut short are no number. -/
theorem get_cut (s : ByteArray) (p : Int) : ∀ (d j : Nat) (a n : Int) (c : Nat), j + d = 10 → j ≤ 9 → 0 ≤ a → a < pw j → 0 ≤ n → a + n * pw j < 18446744073709551616 → c < (digs d n).length → p + j + c = s.size → (∀ (i : Nat) (h : i < c) (h' : i < (digs d n).length), bt s (p + j + i) = (digs d n)[i]) →
    getGo s p d (j : Int) a = (0, 0, 2)
  | 0, j, a, n, c, hd, hj, _, _, _, _, _, _, _ => by omega
  | d + 1, j, a, n, c, hd, hj, ha0, ha1, hn0, hn1, hc, hs, hb => by
    rw [getGo]
    cases c with
    | zero => rw [if_pos (by omega)]
    | succ c =>
      rw [if_neg (by omega)]
      have hb0 := hb 0 (by omega) (by omega)
      simp only [digs] at hb0 hb hc
      have hge : n ≥ 128 := by
        apply Classical.byContradiction
        intro h
        rw [if_neg h] at hc
        simp at hc
      simp only [if_pos hge, List.getElem_cons_zero, Int.natCast_zero, Int.add_zero, Int.cast_ofNat_Int] at hb0
      have h9 : j ≠ 9 := by
        rintro rfl
        have : pw 9 = 9223372036854775808 := by decide
        rw [this] at hn1
        omega
      rw [hb0, if_neg (by omega), if_pos (by omega), stepN_eq j hj a (128 + n % 128) ha0 ha1 (by omega) (by omega) (fun h => absurd h h9), show (128 + n % 128) % 128 = n % 128 by omega, show ((j : Int) + 1) = ((j + 1 : Nat) : Int) by omega]
      have e2 : a + n % 128 * pw j + n / 128 * pw (j + 1) = a + n * pw j := by
        simp only [pw]
        rcases ten j hj with rfl | rfl | rfl | rfl | rfl | rfl | rfl | rfl | rfl | rfl <;> (simp only [pw]; omega)
      refine get_cut s p d (j + 1) _ (n / 128) c (by omega) (by omega) ?_ ?_ (by omega) (by rw [e2]; exact hn1) ?_ (by omega) ?_
      · rcases ten j hj with rfl | rfl | rfl | rfl | rfl | rfl | rfl | rfl | rfl | rfl <;> (simp only [pw]; omega)
      · rcases ten j hj with rfl | rfl | rfl | rfl | rfl | rfl | rfl | rfl | rfl | rfl <;> (simp only [pw] at ha1 ⊢; omega)
      · rw [if_pos hge] at hc
        simp only [List.length_cons] at hc
        omega
      · intro i h h'
        have := hb (i + 1) (by omega) (by rw [if_pos hge]; simp only [List.length_cons]; omega)
        simp only [if_pos hge, List.getElem_cons_succ] at this
        rw [← this]
        congr 1
        omega
end Go.Proofs.Ytgchnnkbknaklaa.XBytes
