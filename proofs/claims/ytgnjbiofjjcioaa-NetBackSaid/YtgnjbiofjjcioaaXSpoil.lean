/- A text with one byte turned: the other bytes stay, that one changes, turned twice it is the text. -/
import Derived.Test.YtgnjbiofjjcioaaXV22
namespace Go.Proofs.Ytgnjbiofjjcioaa.XSpoil
open Go.RowKit Go.Proofs.YtgnjbiofjjcioaaW.PrintWords Go.Proofs.YtgnjbiofjjcioaaW.PrintLast Go.Proofs.Ytgnjbiofjjcioaa.XCorrupt
theorem size_len (s : ByteArray) : s.size = s.data.toList.length := by rw [Array.length_toList]; rfl
theorem ba_ext {a b : ByteArray} (h : a.data.toList = b.data.toList) : a = b := by
  apply ByteArray.ext
  exact Array.toList_inj.1 h
theorem bt_eq (s : ByteArray) (i : Int) : bt s i = ((s.data.toList.getD i.toNat 0).toNat : Int) := by
  unfold bt
  rw [List.getD_eq_getElem?_getD]
  split
  · rename_i h
    rw [List.getElem?_eq_getElem (by rw [← size_len]; exact h)]
    rfl
  · rename_i h
    rw [List.getElem?_eq_none (by rw [← size_len]; omega)]
    rfl
def InB (l : List Int) : Prop := ∀ x ∈ l, 0 ≤ x ∧ x ≤ 255
theorem bt_nums (l : List Int) (hl : InB l) (j : Nat) (h : j < l.length) : bt (strOfNums l) (j : Int) = l[j] := by
  rw [bt_eq, strOfNums_data, List.getD_eq_getElem?_getD, List.getElem?_map, Int.toNat_natCast, List.getElem?_eq_getElem h]
  have := hl l[j] (List.getElem_mem h)
  simp only [Option.map_some, Option.getD_some]
  rw [UInt8.toNat_ofNat_of_lt' (by show l[j].toNat < 256; omega)]
  omega
theorem inB (s : ByteArray) : InB (bytesOf s) := by
  intro x hx
  obtain ⟨b, _, rfl⟩ := List.mem_map.1 hx
  have := b.toNat_lt
  omega
theorem bytes_get (s : ByteArray) (j : Nat) (h : j < (bytesOf s).length) : (bytesOf s)[j] = bt s (j : Int) := by
  rw [bt_eq, Int.toNat_natCast, List.getD_eq_getElem?_getD]
  unfold bytesOf at h ⊢
  rw [List.length_map] at h
  rw [List.getElem_map, List.getElem?_eq_getElem h]
  rfl
theorem bytes_nums (l : List Int) (hl : InB l) : bytesOf (strOfNums l) = l := by
  apply List.ext_getElem
  · rw [bytesOf_length, strOfNums_size]
  · intro j h1 h2
    rw [bytes_get, bt_nums l hl j h2]
theorem nums_bytes (s : ByteArray) : strOfNums (bytesOf s) = s := by
  apply ba_ext
  rw [strOfNums_data]
  unfold bytesOf
  rw [List.map_map]
  conv => rhs; rw [← List.map_id s.data.toList]
  apply List.map_congr_left
  intro b _
  simp
theorem xors : ∀ b : Fin 256, ∀ m : Fin 256, (bits .xor .u8 ((b.1 : Nat) : Int) ((m.1 : Nat) : Int) = (((b.1 ^^^ m.1 : Nat)) : Int)) := by decide +kernel
theorem xor_nat (b m : Int) (hb : 0 ≤ b ∧ b ≤ 255) (hm : 0 ≤ m ∧ m ≤ 255) : bits .xor .u8 b m = ((b.toNat ^^^ m.toNat : Nat) : Int) := by
  have := xors ⟨b.toNat, by omega⟩ ⟨m.toNat, by omega⟩
  rwa [Int.toNat_of_nonneg hb.1, Int.toNat_of_nonneg hm.1] at this
theorem xor_in (b m : Int) (hb : 0 ≤ b ∧ b ≤ 255) (hm : 0 ≤ m ∧ m ≤ 255) : 0 ≤ bits .xor .u8 b m ∧ bits .xor .u8 b m ≤ 255 := by
  rw [xor_nat b m hb hm]
  have : b.toNat ^^^ m.toNat < 2 ^ 8 := Nat.xor_lt_two_pow (by omega) (by omega)
  omega
theorem xor_ne (b m : Int) (hb : 0 ≤ b ∧ b ≤ 255) (hm : 1 ≤ m ∧ m ≤ 255) : bits .xor .u8 b m ≠ b := by
  rw [xor_nat b m hb (by omega)]
  intro h
  have h2 : b.toNat ^^^ m.toNat = b.toNat := by omega
  have h3 : b.toNat ^^^ (b.toNat ^^^ m.toNat) = b.toNat ^^^ b.toNat := by rw [h2]
  rw [← Nat.xor_assoc, Nat.xor_self, Nat.zero_xor] at h3
  omega
theorem xor_back (b m : Int) (hb : 0 ≤ b ∧ b ≤ 255) (hm : 0 ≤ m ∧ m ≤ 255) : bits .xor .u8 (bits .xor .u8 b m) m = b := by
  rw [xor_nat _ m (xor_in b m hb hm) hm, xor_nat b m hb hm, Int.toNat_natCast, Nat.xor_assoc, Nat.xor_self, Nat.xor_zero]
  omega
theorem set_in {l : List Int} (hl : InB l) (k : Nat) {x : Int} (hx : 0 ≤ x ∧ x ≤ 255) : InB (l.set k x) := by
  intro y hy
  rcases List.mem_or_eq_of_mem_set hy with h | rfl
  · exact hl y h
  · exact hx
theorem spoil_size (s : ByteArray) (k : Nat) (m : Int) : (spoil s k m).size = s.size := by
  unfold spoil
  rw [strOfNums_size, List.length_set, bytesOf_length]
theorem spoil_bytes (s : ByteArray) (k : Nat) (m : Int) (hm : 0 ≤ m ∧ m ≤ 255) : bytesOf (spoil s k m) = (bytesOf s).set k (bits .xor .u8 (bt s (k : Int)) m) :=
  bytes_nums _ (set_in (inB s) k (xor_in _ _ (bt_range s k) hm))
theorem bt_spoil (s : ByteArray) (k : Nat) (m : Int) (hm : 0 ≤ m ∧ m ≤ 255) (j : Nat) (h : j < s.size) : bt (spoil s k m) (j : Int) = if k = j then bits .xor .u8 (bt s (k : Int)) m else bt s (j : Int) := by
  have h1 : j < (bytesOf (spoil s k m)).length := by rw [bytesOf_length, spoil_size]; exact h
  rw [← bytes_get _ j h1]
  simp only [spoil_bytes s k m hm, List.getElem_set]
  split
  · rfl
  · rw [bytes_get]
theorem spoil_spoil (s : ByteArray) (k : Nat) (m : Int) (hm : 0 ≤ m ∧ m ≤ 255) (h : k < s.size) : spoil (spoil s k m) k m = s := by
  conv => lhs; unfold spoil
  rw [show strOfNums ((bytesOf s).set k (bits .xor .u8 (bt s (k : Int)) m)) = spoil s k m from rfl, spoil_bytes s k m hm, bt_spoil s k m hm k h, if_pos rfl, List.set_set, xor_back _ _ (bt_range s k) hm]
  have hk : k < (bytesOf s).length := by rw [bytesOf_length]; exact h
  rw [← bytes_get s k hk, List.set_getElem_self, nums_bytes]
end Go.Proofs.Ytgnjbiofjjcioaa.XSpoil
