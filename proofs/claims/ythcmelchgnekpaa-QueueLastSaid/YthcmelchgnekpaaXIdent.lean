/- ident.Is and ident.Less, walked: a name by its runes (a rune from a byte of 128 on is none of a name's), and the order of names. -/
import Derived.Test.YthcmelchgnekpaaProg
import Derived.Below
import Derived.Deep.Draws
import Derived.Deep.AppendLies
import Derived.Maps.AppendAt
import Derived.OwnWalk
import Derived.Laws.BytesArg
import Derived.Laws.MakeOwn
import Derived.Laws.OwnMore
import Derived.Deep.OwnRows
import Derived.Tactics
import Derived.Lib.ConvBytes
import Derived.Laws.Slices
import Derived.WalkKit
import Derived.KernelRfl
import Derived.RowKit3
import Derived.Deep.LoopGhost
import Derived.Deep.QuietTactic
import Derived.BigQuiet
import Derived.WideLaws
import Derived.Deep.DeepCutAuto
import Derived.Deep.CutBlock
import Derived.Deep.RegionHeld3
import Derived.Laws.Rows
import Derived.Lib.AppendStr
import Derived.ArgAppend
import Derived.Laws.IdiomCopy
import Derived.OrdersHeld
import Derived.Laws.BitsLemmas
import Derived.RowKit
import Derived.Test.YthcmelchgnekpaaWWords
import Derived.Test.YthcmelchgnekpaaWLast
import Derived.Test.YthcmelchgnekpaaWTab
import Derived.Test.YthcmelchgnekpaaWFour
import Derived.Test.YthcmelchgnekpaaWQPut
import Derived.Test.YthcmelchgnekpaaWApart
import Derived.Test.YthcmelchgnekpaaWArr
import Derived.Test.YthcmelchgnekpaaWZeros
import Derived.Test.YthcmelchgnekpaaWFoot
import Derived.Test.YthcmelchgnekpaaWKept
import Derived.Test.YthcmelchgnekpaaWShare
import Derived.Test.YthcmelchgnekpaaWN
import Derived.Test.YthcmelchgnekpaaWFootNe
import Derived.Test.YthcmelchgnekpaaWAt
import Derived.Test.YthcmelchgnekpaaWEqStruct
import Derived.Test.YthcmelchgnekpaaWRepsOne
import Derived.Test.YthcmelchgnekpaaWInv
import Derived.Test.YthcmelchgnekpaaWInvWords
import Derived.Test.YthcmelchgnekpaaWGuard
import Derived.Test.YthcmelchgnekpaaWNEv
import Derived.Test.YthcmelchgnekpaaWMore
import Derived.Lib.OthersKept
import Derived.Lib.Bytealg
import Derived.Lib.Strings
namespace Go.Proofs.Ythcmelchgnekpaa.XIdent
open Go.RowKit Go.Proofs.YthcmelchgnekpaaW.PrintWords Go.Proofs.YthcmelchgnekpaaW.PrintLast Go.Proofs.YthcmelchgnekpaaW.PrintMore
set_option linter.unusedVariables false
set_option linter.unusedSimpArgs false
theorem letter_yes (c : Int) (h1 : 97 ≤ c) (h2 : c ≤ 122) (w : World) : Calls Try.prog 47 #[.int .i32 c] w fun e w' => e = .returned (.bool true) ∧ w' = w := by
  go_enter Try.func47, Try.ntmps47
  go_wp2
  go_ret
  exact ⟨rfl, rfl⟩
theorem letter_no (c : Int) (h : c < 97 ∨ 122 < c) (w : World) : Calls Try.prog 47 #[.int .i32 c] w fun e w' => e = .returned (.bool false) ∧ w' = w := by
  rcases h with h | h
  · go_enter Try.func47, Try.ntmps47
    go_wp2
    go_ret
    exact ⟨rfl, rfl⟩
  · have h0 : 97 ≤ c := by omega
    go_enter Try.func47, Try.ntmps47
    go_wp2
    go_ret
    exact ⟨by simp; omega, rfl⟩
/-- May a byte stand at a place of a name? -/
def okAt (s : ByteArray) (j : Nat) : Prop := (97 ≤ bt s j ∧ bt s j ≤ 122) ∨ (j ≠ 0 ∧ ((48 ≤ bt s j ∧ bt s j ≤ 57) ∨ bt s j = 45))
instance (s : ByteArray) (j : Nat) : Decidable (okAt s j) := by unfold okAt; infer_instance
def isB (s : ByteArray) : Bool := decide (0 < s.size ∧ s.size ≤ 16) && (List.range s.size).all fun j => decide (okAt s j)
theorem isB_no {s : ByteArray} (j : Nat) (hj : j < s.size) (h : ¬ okAt s j) : isB s = false := by
  unfold isB
  have : ((List.range s.size).all fun j => decide (okAt s j)) = false := by
    rw [List.all_eq_false]
    exact ⟨j, List.mem_range.2 hj, by simp [h]⟩
  rw [this, Bool.and_false]
theorem isB_all {s : ByteArray} (h : ∀ j, j < s.size → okAt s j) : isB s = decide (0 < s.size ∧ s.size ≤ 16) := by
  unfold isB
  have : ((List.range s.size).all fun j => decide (okAt s j)) = true := by
    rw [List.all_eq_true]
    intro j hj
    simp [h j (List.mem_range.1 hj)]
  rw [this, Bool.and_true]
theorem high_n (b x y z : Nat) (q1 q2 q3 : Bool) (v1 v2 : Bool) (h : 128 ≤ b) : 128 ≤ (if b < 0x80 then (b, 1) else if b / 32 == 6 && q1 then (if (b % 32) * 64 + x % 64 ≥ 0x80 then ((b % 32) * 64 + x % 64, 2) else (0xFFFD, 1))
    else if b / 16 == 14 && q1 && q2 then (if (b % 16) * 4096 + (x % 64) * 64 + y % 64 ≥ 0x800 && v1 then ((b % 16) * 4096 + (x % 64) * 64 + y % 64, 3) else (0xFFFD, 1))
    else if b / 8 == 30 && q1 && q2 && q3 then (if (b % 8) * 262144 + (x % 64) * 4096 + (y % 64) * 64 + z % 64 ≥ 0x10000 && v2 then ((b % 8) * 262144 + (x % 64) * 4096 + (y % 64) * 64 + z % 64, 4) else (0xFFFD, 1)) else ((0xFFFD : Nat), 1)).1 := by
  rw [if_neg (by omega)]
  split
  · split
    · simp only; omega
    · simp only; omega
  · split
    · split
      · rename_i h2
        simp only [Bool.and_eq_true, decide_eq_true_eq] at h2
        simp only; omega
      · simp only; omega
    · split
      · split
        · rename_i h2
          simp only [Bool.and_eq_true, decide_eq_true_eq] at h2
          simp only; omega
        · simp only; omega
      · simp only; omega
theorem high {s : ByteArray} {i : Nat} (h : 128 ≤ (s.get! i).toNat) : 128 ≤ (Utf8.decode s i).1 := by
  exact high_n (s.get! (i + 0)).toNat (s.get! (i + 1)).toNat (s.get! (i + 2)).toNat (s.get! (i + 3)).toNat _ _ _ _ _ h
theorem rune_at (s : ByteArray) (k : Nat) (h : k < s.size) : ((Utf8.decode s k).1 = bt s (k : Int) ∧ Utf8.decode s k = ((bt s (k : Int)).toNat, 1)) ∨ (128 ≤ (Utf8.decode s k).1 ∧ 128 ≤ bt s (k : Int)) := by
  have hb : ((s[k]'h).toNat : Int) = bt s (k : Int) := by
    have := bt_at s (k : Int)
    simp only [Int.toNat_natCast] at this
    exact this h
  by_cases c : (s[k]'h).toNat < 128
  · left
    rw [decode_ascii s k h c, ← hb]
    exact ⟨rfl, by simp⟩
  · right
    refine ⟨high ?_, by omega⟩
    have : s.get! k = s[k]'h := by simp [ByteArray.get!, getElem!_pos, h]; rfl
    rw [this]; omega
theorem empty_yes {s : ByteArray} (h : s.size = 0) : (s.toList == ([] : List UInt8)) = true ∧ s.toList.isEmpty = true := by
  have e0 : s = ⟨#[]⟩ := by
    apply ByteArray.ext
    exact Array.eq_empty_of_size_eq_zero h
  rw [e0]
  decide +kernel
theorem empty_no {s : ByteArray} (h : 0 < s.size) : (s.toList == ([] : List UInt8)) = false ∧ s.toList.isEmpty = false := by
  have hl : s.toList.length = s.size := by rw [Lib.toList_data, Array.length_toList]; rfl
  have hne : s.toList ≠ [] := fun e => by rw [e] at hl; simp at hl; omega
  exact ⟨beq_eq_false_iff_ne.mpr hne, by simpa using hne⟩
def ident_Is.f (s : ByteArray) : Option Bool := if s.size ≤ 9223372036854775807 then some (isB s) else none
set_option maxHeartbeats 8000000 in
set_option maxRecDepth 100000 in
theorem ident_Is.calls (a0 : ByteArray) (r : Bool) (w : World) (h : ident_Is.f a0 = some r) :
    Calls Try.prog 30 #[.string a0] w fun e w' => e = .returned (.bool r) ∧ Below w.heap.size w w' := by
  unfold ident_Is.f at h
  by_cases hs : a0.size ≤ 9223372036854775807
  rotate_left
  · rw [if_neg hs] at h; cases h
  rw [if_pos hs] at h
  obtain rfl := Option.some.inj h
  clear h
  have HB0 := Aside0.mk (below_alloc (Below.refl _ w) (.stringIter a0 0))
  go_enter Try.func30, Try.ntmps30
  go_wp2
  go_loopw [3] (fun p wr => ∃ k : Nat, k ≤ a0.size ∧ wr.heap[w.heap.size]? = some (.stringIter a0 k) ∧ Aside0 (Below w.heap.size w wr) ∧ Aside0 (∀ j, j < k → okAt a0 j)) (fun _ wr => a0.size - wr.iterPos w.heap.size)
  case atStart => exact ⟨0, Nat.zero_le _, World.iter_heap w a0 0, HB0, ⟨fun j hj => absurd hj (Nat.not_lt_zero j)⟩⟩
  case round =>
    obtain ⟨k, hk, hit, HB, HO⟩ := hrel
    by_cases hlt : k < a0.size
    · have hnx : ∀ ty, (Instr.next (.pointer (some ⟨w.heap.size, 0, none⟩)) true ty).run Try.prog wr = _ := fun ty => Lib.run_next_any_at wr w.heap.size a0 k ty hit hlt
      have HB2 := Aside0.mk (Lib.below_iterAt HB.out (Nat.le_refl _) a0 (k + (Utf8.decode a0 k).2))
      have HH := Aside0.mk (Lib.iterAt_heap wr w.heap.size a0 k (k + (Utf8.decode a0 k).2) hit)
      have HP := Aside0.mk hit
      generalize hwn : wr.iterAt w.heap.size a0 (k + (Utf8.decode a0 k).2) = wn at hnx HB2 HH
      clear hwn HB hit
      by_cases ok : okAt a0 k
      · have hd := rune_at a0 k hlt
        have hu : okAt a0 k := ok
        unfold okAt at ok
        obtain ⟨hd1, hd2⟩ : ((Utf8.decode a0 k).1 : Int) = bt a0 (k : Int) ∧ Utf8.decode a0 k = ((bt a0 (k : Int)).toNat, 1) := by
          rcases hd with hd | hd
          · exact hd
          · omega
        rw [hd1] at hnx
        have hw : (Utf8.decode a0 k).2 = 1 := by rw [hd2]
        have HW := Aside0.mk hw
        generalize bt a0 (k : Int) = c at hnx ok
        clear hd hd1 hd2 hw
        have HN := Aside0.mk hu
        clear hu
        by_cases h1 : 97 ≤ c ∧ c ≤ 122
        · obtain ⟨h1, h2⟩ := h1
          clear ok
          go_wp2_with (go_at_call 47; refine (letter_yes c h1 h2 _).mono ?_; rintro e w1 ⟨rfl, rfl⟩)
          go_roundw
          case rel => exact ⟨k + 1, hlt, by have := HH.out; rwa [HW.out] at this, HB2, ⟨fun j hj => by rcases Nat.lt_succ_iff_lt_or_eq.mp hj with h | rfl; exact HO.out j h; exact HN.out⟩⟩
          case measure => simp only [World.iterPos, HH.out, HP.out, HW.out]; omega
        · have hl : c < 97 ∨ 122 < c := by omega
          have k0 : k ≠ 0 := by omega
          have k1 : 0 < k := by omega
          have k2 : ((k : Int) == 0) = false := beq_eq_false_iff_ne.mpr (by omega)
          by_cases h3 : c = 45
          · subst h3
            clear ok h1
            go_wp2_with (go_at_call 47; refine (letter_no 45 hl _).mono ?_; rintro e w1 ⟨rfl, rfl⟩)
            go_roundw
            case rel => exact ⟨k + 1, hlt, by have := HH.out; rwa [HW.out] at this, HB2, ⟨fun j hj => by rcases Nat.lt_succ_iff_lt_or_eq.mp hj with h | rfl; exact HO.out j h; exact HN.out⟩⟩
            case measure => simp only [World.iterPos, HH.out, HP.out, HW.out]; omega
          · have h4 : 48 ≤ c := by omega
            have h5 : c ≤ 57 := by omega
            clear ok h1
            go_wp2_with (go_at_call 47; refine (letter_no c hl _).mono ?_; rintro e w1 ⟨rfl, rfl⟩)
            go_roundw
            case rel => exact ⟨k + 1, hlt, by have := HH.out; rwa [HW.out] at this, HB2, ⟨fun j hj => by rcases Nat.lt_succ_iff_lt_or_eq.mp hj with h | rfl; exact HO.out j h; exact HN.out⟩⟩
            case measure => simp only [World.iterPos, HH.out, HP.out, HW.out]; omega
      · have HE := Aside0.mk (isB_no k hlt ok)
        have hd := rune_at a0 k hlt
        have hc : ((Utf8.decode a0 k).1 : Int) < 97 ∨ 122 < ((Utf8.decode a0 k).1 : Int) := by unfold okAt at ok; omega
        have hc2 : k ≠ 0 → (((Utf8.decode a0 k).1 : Int) < 48 ∨ 57 < ((Utf8.decode a0 k).1 : Int)) ∧ ((Utf8.decode a0 k).1 : Int) ≠ 45 := by unfold okAt at ok; omega
        generalize ((Utf8.decode a0 k).1 : Int) = c at hnx hc hc2
        clear hd ok HO HH HP
        by_cases k0 : k = 0
        · subst k0
          clear hc2
          go_wp2_with (go_at_call 47; refine (letter_no c hc _).mono ?_; rintro e w1 ⟨rfl, rfl⟩)
          go_ret
          exact ⟨by rw [HE.out]; rfl, HB2.out⟩
        · have k2 : ((k : Int) == 0) = false := beq_eq_false_iff_ne.mpr (by omega)
          have k1 : 0 < k := by omega
          obtain ⟨h3, h4⟩ := hc2 k0
          have h5 : (c == 45) = false := beq_eq_false_iff_ne.mpr h4
          have h6 : (c != 45) = true := bne_iff_ne.mpr h4
          rcases h3 with h3 | h3
          · clear hc2 h4
            go_wp2_with (go_at_call 47; refine (letter_no c hc _).mono ?_; rintro e w1 ⟨rfl, rfl⟩)
            go_ret
            exact ⟨by rw [HE.out]; rfl, HB2.out⟩
          · have h7 : 48 ≤ c := by omega
            clear hc2 h4
            go_wp2_with (go_at_call 47; refine (letter_no c hc _).mono ?_; rintro e w1 ⟨rfl, rfl⟩)
            go_ret
            exact ⟨by rw [HE.out]; rfl, HB2.out⟩
    · have hnx : ∀ ty, (Instr.next (.pointer (some ⟨w.heap.size, 0, none⟩)) true ty).run Try.prog wr = _ := fun ty => Lib.run_next_end_at wr w.heap.size a0 k ty hit hlt
      obtain rfl : k = a0.size := by omega
      have HE := Aside0.mk (isB_all HO.out)
      clear HO hit hk hlt
      by_cases h0 : a0.size = 0
      · obtain ⟨e1, e2⟩ := empty_yes h0
        have HF := Aside0.mk (show isB a0 = false by rw [HE.out]; simp [h0])
        clear HE
        go_wp2
        go_ret
        exact ⟨by rw [HF.out]; rfl, HB.out⟩
      · obtain ⟨e1, e2⟩ := empty_no (s := a0) (by omega)
        by_cases h16 : a0.size ≤ 16
        · have HF := Aside0.mk (show isB a0 = true by rw [HE.out]; simp; omega)
          have h16' : (a0.size : Int) ≤ 16 := by omega
          clear HE h0
          go_wp2
          go_ret
          exact ⟨by rw [HF.out]; rfl, HB.out⟩
        · have HF := Aside0.mk (show isB a0 = false by rw [HE.out]; simp; omega)
          have h16' : ¬ (a0.size : Int) ≤ 16 := by omega
          clear HE h0
          go_wp2
          go_ret
          exact ⟨by rw [HF.out]; rfl, HB.out⟩
end Go.Proofs.Ythcmelchgnekpaa.XIdent
