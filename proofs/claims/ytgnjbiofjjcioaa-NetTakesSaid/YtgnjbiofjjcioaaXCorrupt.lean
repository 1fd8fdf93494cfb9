/- net.Corrupt and its reference, walked: a text of a list with one byte turned; told of lists below the limit of an append. -/
import Derived.Test.YtgnjbiofjjcioaaProg
import Derived.Below
import Derived.Deep.Draws
import Derived.Deep.AppendLies
import Derived.Maps.AppendAt
import Derived.OwnWalk
import Derived.Laws.BytesArg
import Derived.Laws.MakeOwn
import Derived.Laws.OwnMore
import Derived.Deep.OwnRows
import Derived.Tactics
import Derived.Lib.ConvBytes
import Derived.Laws.Slices
import Derived.WalkKit
import Derived.KernelRfl
import Derived.RowKit3
import Derived.Deep.LoopGhost
import Derived.Deep.QuietTactic
import Derived.BigQuiet
import Derived.WideLaws
import Derived.Deep.DeepCutAuto
import Derived.Deep.CutBlock
import Derived.Deep.RegionHeld3
import Derived.Laws.Rows
import Derived.Lib.AppendStr
import Derived.ArgAppend
import Derived.Laws.IdiomCopy
import Derived.OrdersHeld
import Derived.Laws.BitsLemmas
import Derived.RowKit
import Derived.Test.YtgnjbiofjjcioaaWWords
import Derived.Test.YtgnjbiofjjcioaaWLast
import Derived.Test.YtgnjbiofjjcioaaWTab
import Derived.Test.YtgnjbiofjjcioaaWFour
import Derived.Test.YtgnjbiofjjcioaaWQPut
import Derived.Test.YtgnjbiofjjcioaaWApart
import Derived.Test.YtgnjbiofjjcioaaWArr
import Derived.Test.YtgnjbiofjjcioaaWZeros
import Derived.Test.YtgnjbiofjjcioaaWFoot
import Derived.Test.YtgnjbiofjjcioaaWKept
import Derived.Test.YtgnjbiofjjcioaaWShare
import Derived.Test.YtgnjbiofjjcioaaWN
import Derived.Test.YtgnjbiofjjcioaaWFootNe
import Derived.Test.YtgnjbiofjjcioaaWAt
import Derived.Test.YtgnjbiofjjcioaaWEqStruct
import Derived.Test.YtgnjbiofjjcioaaWRepsOne
import Derived.Test.YtgnjbiofjjcioaaWInv
import Derived.Test.YtgnjbiofjjcioaaWInvWords
import Derived.Test.YtgnjbiofjjcioaaWGuard
import Derived.Test.YtgnjbiofjjcioaaWNEv
import Derived.Test.YtgnjbiofjjcioaaWMore
import Derived.Test.YtgnjbiofjjcioaaXRows
import Derived.Test.YtgnjbiofjjcioaaXCloneStr
import Derived.Lib.Strings
namespace Go.Proofs.Ytgnjbiofjjcioaa.XCorrupt
open Go.RowKit Go.Proofs.YtgnjbiofjjcioaaW.PrintWords Go.Proofs.YtgnjbiofjjcioaaW.PrintLast Go.Proofs.YtgnjbiofjjcioaaW.PrintMore Go.Proofs.Ytgnjbiofjjcioaa.XRows
set_option linter.unusedVariables false
set_option linter.unusedSimpArgs false
/-- A text with one byte turned. -/
def spoil (s : ByteArray) (k : Nat) (m : Int) : ByteArray := strOfNums ((bytesOf s).set k (bits .xor .u8 (bt s (k : Int)) m))
def corruptF (l : List ByteArray) (i p m : Int) : Option (List ByteArray × Int) :=
  if l.length < 8796093022208 ∧ (rdOf ByteArray.empty l i).size ≤ 9223372036854775807 then
    some (if i < 0 ∨ i ≥ (l.length : Int) then (l, 6) else
      if (rdOf ByteArray.empty l i).size = 0 ∨ p < 0 ∨ m < 1 ∨ m > 255 then (l, 1) else
      (l.set i.toNat (spoil (rdOf ByteArray.empty l i) (p % ((rdOf ByteArray.empty l i).size : Int)).toNat m), 0))
  else none
theorem bytes_len (w : World) (e : TypeId) (s : ByteArray) : s.size ≤ (Lib.bytesCells w e s).size := by
  unfold Lib.bytesCells
  rw [Array.size_append, Array.size_map]
  exact Nat.le_add_right _ _
theorem bytes_free (w : World) (e : TypeId) (s : ByteArray) (k : Nat) (h : k < (Lib.bytesCells w e s).size) : (Lib.bytesWorld w e s).frozen? ⟨w.heap.size, k, none⟩ = false := by
  have h1 := Lib.bytesWorld_at_new w e s
  simp [World.frozen?, h1]
  omega
/-- The bytes behind a store of one of them. -/
theorem bytes_set {W : World} {b n : Nat} {xs : List Int} (h : ReadsInt W .u8 (some ⟨b, 0, none⟩) n xs) (k : Nat) (hk : k < n) (y : Int) : ReadsInt (W.setCell ⟨b, k, none⟩ (.int .u8 y)) .u8 (some ⟨b, 0, none⟩) n (xs.set k y) := by
  obtain ⟨h1, h2, h3⟩ := h
  refine ⟨by rw [List.length_set]; exact h1, h2, fun hn => ⟨_, rfl, fun j hj => ?_⟩⟩
  obtain ⟨ad, e, hc⟩ := h3 hn
  injection e with e
  subst e
  have hc2 := hc j hj
  rw [add_plain] at hc2 ⊢
  by_cases e : k = j
  · subst e
    rw [World.cell?_setCell_same' _ _ _ (by rw [hc2]; rfl)]
    simp [List.getD_eq_getElem?_getD, h1, hk]
  · rw [World.cell?_setCell_other _ _ _ _ (by simp [e]), hc2]
    simp [List.getD_eq_getElem?_getD, List.getElem?_set, e]
theorem own_put {w3 : World} {base e : Nat} {ok : Nat → Prop} {v : Value} {l : List ByteArray} {n i : Nat} (h : Kd.R Kd.string e w3 base ok v l) (hn : n = l.length) (hi : i < n) :
    ∃ g cc u, v = .slice (some ⟨g, 0, none⟩) n cc ∧ n ≤ cc ∧ cc ≤ 9223372036854775807 ∧ base ≤ g ∧ w3.cell? ⟨g, i, none⟩ = some (.string u) ∧ w3.frozen? ⟨g, i, none⟩ = false ∧
      ∀ t, Kd.R Kd.string e (w3.setCell ⟨g, i, none⟩ (.string t)) base ok (.slice (some ⟨g, 0, none⟩) n cc) (l.set i t) := by
  subst hn
  obtain ⟨g, cc, cur, rfl, h1, h2, _, _, _, h3⟩ := R_shape h (by omega)
  obtain ⟨c1, c2⟩ := Kd.R_cell ByteArray.empty h (i : Int) (by omega) (by omega)
  rw [Int.toNat_natCast] at c1 c2
  refine ⟨g, cc, _, rfl, h1, h2, h3, c1, c2, fun t => ?_⟩
  have := Kd.R_putn h (i : Int) t
  rwa [Int.toNat_natCast] at this
theorem empty_yes {s : ByteArray} (h : s.size = 0) : (s.toList == ([] : List UInt8)) = true ∧ s.toList.isEmpty = true := by
  have e0 : s = ⟨#[]⟩ := by
    apply ByteArray.ext
    exact Array.eq_empty_of_size_eq_zero h
  rw [e0]
  decide +kernel
theorem empty_no {s : ByteArray} (h : 0 < s.size) : (s.toList == ([] : List UInt8)) = false ∧ s.toList.isEmpty = false := by
  have hl : s.toList.length = s.size := by rw [Lib.toList_data, Array.length_toList]; rfl
  have hne : s.toList ≠ [] := fun e => by rw [e] at hl; simp at hl; omega
  exact ⟨beq_eq_false_iff_ne.mpr hne, by simpa using hne⟩
theorem there_yes (A : Option Addr) (n c : Nat) (i : Int) (w : World) (h0 : 0 ≤ i) (h1 : i < n) : Calls Try.prog 23 #[.slice A n c, .int .i64 i] w fun e w' => e = .returned (.bool true) ∧ w = w' := by
  go_enter Try.func23, Try.ntmps23
  go_wp2
  go_ret
  exact ⟨by simp [h0, h1], rfl⟩
theorem there_no (A : Option Addr) (n c : Nat) (i : Int) (w : World) (h : i < 0 ∨ i ≥ n) : Calls Try.prog 23 #[.slice A n c, .int .i64 i] w fun e w' => e = .returned (.bool false) ∧ w = w' := by
  rcases h with h | h
  · go_enter Try.func23, Try.ntmps23
    go_wp2
    go_ret
    exact ⟨rfl, rfl⟩
  · have h0 : 0 ≤ i := by omega
    have h' : (n : Int) ≤ i := h
    clear h
    go_enter Try.func23, Try.ntmps23
    go_wp2
    go_ret
    exact ⟨by simp; omega, rfl⟩
def net_Corrupt.f := corruptF
set_option maxHeartbeats 16000000 in
set_option maxRecDepth 100000 in
theorem net_Corrupt.calls (P0_ : Nat → Prop) (A0 : Option Addr) (c0 : Nat) (l0 : List ByteArray) (a1 : Int) (a2 : Int) (a3 : Int) (r1 : List ByteArray) (r2 : Int) (w : World) (hs0 : Kd.V Kd.string 9 w w.heap.size (fun k_ => P0_ k_) (.slice A0 l0.length c0) l0) (h : net_Corrupt.f l0 a1 a2 a3 = some (r1, r2)) :
    Calls Try.prog 12 #[.slice A0 l0.length c0, .int .i64 a1, .int .i64 a2, .int .i64 a3] w fun e w' => ∃ v0_ : Value, e = .returned (.tuple #[v0_, .int .i64 r2]) ∧ Kd.V Kd.string 9 w' w.heap.size (fun k_ => (P0_ k_ ∨ w.heap.size ≤ k_)) v0_ r1 ∧ Below w.heap.size w w' := by
  unfold net_Corrupt.f corruptF at h
  by_cases c : l0.length < 8796093022208 ∧ (rdOf ByteArray.empty l0 a1).size ≤ 9223372036854775807
  · rw [if_pos c] at h
    replace h := Option.some.inj h
    obtain ⟨c, ss⟩ := c
    have SS := Aside0.mk ss
    clear ss
    have hV := Kd.V_mono hs0 (ok' := fun k_ => (P0_ k_ ∨ w.heap.size ≤ k_)) (fun k hk => .inl hk)
    have hC := (Kd.V_reads' hs0).2.2
    have hc0 := (Kd.V_reads' hs0).2.1
    clear hs0
    obtain ⟨n, hn⟩ : ∃ n, n = l0.length := ⟨_, rfl⟩
    rw [← hn] at c h hV hC hc0 ⊢
    have HV := Aside0.mk hV
    have HC := Aside0.mk hC
    have HN := Aside0.mk hn
    clear hV hC hn
    by_cases c1 : a1 < 0 ∨ a1 ≥ (n : Int)
    · rw [if_pos c1] at h
      obtain ⟨rfl, rfl⟩ : l0 = r1 ∧ 6 = r2 := by simpa using h
      clear h
      have hth := there_no A0 n c0 a1 w c1
      clear c1
      go_enter Try.func12, Try.ntmps12
      go_wp2_with (go_at_call 23; refine hth.mono ?_; rintro e w1 ⟨rfl, rfl⟩)
      go_ret2
      exact ⟨_, rfl, HV.out, Below.refl _ _⟩
    · rw [if_neg c1] at h
      have i0 : 0 ≤ a1 := by omega
      have i1 : a1 < n := by omega
      clear c1
      obtain ⟨ad, hA, hcell⟩ := Kd.at_string HC.out a1 i0 i1
      subst hA
      obtain ⟨i, rfl⟩ := Int.eq_ofNat_of_zero_le i0
      obtain ⟨s, hs⟩ : ∃ s, s = rdOf ByteArray.empty l0 (i : Int) := ⟨_, rfl⟩
      rw [← hs] at h hcell
      rw [Int.toNat_natCast] at hcell h
      have i2 : i < n := by omega
      have HS := Aside0.mk hs
      clear hs i0 i1
      by_cases c2 : s.size = 0 ∨ a2 < 0 ∨ a3 < 1 ∨ a3 > 255
      · rw [if_pos c2] at h
        obtain ⟨rfl, rfl⟩ : l0 = r1 ∧ 1 = r2 := by simpa using h
        clear h
        have hth := there_yes (some ad) n c0 (i : Int) w (by omega) (by omega)
        by_cases d1 : s.size = 0
        · obtain ⟨e1, e2⟩ := empty_yes d1
          clear c2 d1 HS
          go_enter Try.func12, Try.ntmps12
          go_wp2_with (go_at_call 23; refine hth.mono ?_; rintro e w1 ⟨rfl, rfl⟩)
          go_ret2
          exact ⟨_, rfl, HV.out, Below.refl _ _⟩
        · obtain ⟨e1, e2⟩ := empty_no (s := s) (by omega)
          by_cases d2 : a2 < 0
          · clear c2 d1 HS
            go_enter Try.func12, Try.ntmps12
            go_wp2_with (go_at_call 23; refine hth.mono ?_; rintro e w1 ⟨rfl, rfl⟩)
            go_ret2
            exact ⟨_, rfl, HV.out, Below.refl _ _⟩
          · by_cases d3 : a3 < 1
            · have d2' : 0 ≤ a2 := by omega
              clear c2 d1 HS d2
              go_enter Try.func12, Try.ntmps12
              go_wp2_with (go_at_call 23; refine hth.mono ?_; rintro e w1 ⟨rfl, rfl⟩)
              go_ret2
              exact ⟨_, rfl, HV.out, Below.refl _ _⟩
            · have d2' : 0 ≤ a2 := by omega
              have d3' : 1 ≤ a3 := by omega
              have d4 : 256 ≤ a3 := by omega
              clear c2 d1 HS d2 d3
              go_enter Try.func12, Try.ntmps12
              go_wp2_with (go_at_call 23; refine hth.mono ?_; rintro e w1 ⟨rfl, rfl⟩)
              go_ret2
              exact ⟨_, rfl, HV.out, Below.refl _ _⟩
      · rw [if_neg c2] at h
        obtain ⟨rfl, rfl⟩ : l0.set i (spoil s (a2 % (s.size : Int)).toNat a3) = r1 ∧ 0 = r2 := by simpa using h
        clear h
        have s0 : 0 < s.size := by omega
        have p0 : 0 ≤ a2 := by omega
        have m0 : 1 ≤ a3 := by omega
        have m1 : a3 ≤ 255 := by omega
        obtain ⟨e1, e2⟩ := empty_no s0
        have hth := there_yes (some ad) n c0 (i : Int) w (by omega) (by omega)
        have ss : s.size ≤ 9223372036854775807 := by rw [HS.out]; exact SS.out
        obtain ⟨k, hk⟩ : ∃ k : Nat, a2 % (s.size : Int) = k := ⟨(a2 % (s.size : Int)).toNat, by have := Int.emod_nonneg a2 (b := (s.size : Int)) (by omega); omega⟩
        have hk1 : k < s.size := by have := Int.emod_lt_of_pos a2 (b := (s.size : Int)) (by omega); omega
        rw [hk, Int.toNat_natCast]
        have kb := print_bytes (P := Try.prog) 9 46 5 Try.underlying9 Try.underlying46 Try.underlying5 s w
        obtain ⟨x, hx⟩ : ∃ x, x = bt s (k : Int) := ⟨_, rfl⟩
        have kc := Lib.bytesWorld_cell w 5 s k hk1
        have kx : ((s.data.toList.getD k 0).toNat : Int) = x := by
          rw [hx, ← rd_bytesOf]
          unfold rd bytesOf
          simp only [Int.toNat_natCast, List.getD_eq_getElem?_getD, List.getElem?_map, List.getElem?_eq_getElem (show k < s.data.toList.length by rw [data_length]; exact hk1), Option.map_some, Option.getD_some]
        rw [show (Value.int IntKind.u8 ((s.data.toList.getD k 0).toNat : Int)) = Value.int .u8 x by rw [← kx]] at kc
        have kf : (Lib.bytesWorld w 5 s).frozen? ⟨w.heap.size, k, none⟩ = false := by
          exact bytes_free w 5 s k (by have := bytes_len w 5 s; omega)
        have kB := bytes_below (Below.refl w.heap.size w) (Nat.le_refl _) 5 s
        have kR := bytes_reads w 5 s ss
        obtain ⟨cap, hcap⟩ : ∃ cap, cap = grownCap w s.size 0 5 := ⟨_, rfl⟩
        rw [← hcap] at kb
        have kS := Lib.bytesWorld_size w 5 s
        obtain ⟨W1, hW1⟩ : ∃ W1, W1 = Lib.bytesWorld w 5 s := ⟨_, rfl⟩
        rw [← hW1] at kb kc kf kB kR kS
        have KR := Aside0.mk kR
        have KX := Aside0.mk hx
        have KB := Aside0.mk kB
        have z1 : ¬ (s.size = 0) := by omega
        have z2 : ((s.size : Int) == 0) = false := beq_eq_false_iff_ne.mpr (by omega)
        have kS2 : w.heap.size < W1.heap.size := by omega
        have hk2 : (k : Int) < (s.size : Int) := by omega
        clear kx hcap hW1 kR hx kB c2 HS kS
        have KB2 := Aside0.mk (KB.out.setCell (p := ⟨w.heap.size, k, none⟩) (Nat.le_refl _) (.int .u8 (bits .xor .u8 x a3)))
        have KR2 := Aside0.mk (bytes_set KR.out k hk1 (bits .xor .u8 x a3))
        have KC2 := Aside0.mk (show Kd.C Kd.string (W1.setCell ⟨w.heap.size, k, none⟩ (.int .u8 (bits .xor .u8 x a3))) (some ad) n l0 from Kd.C_below HC.out KB2.out)
        have KZ := Aside0.mk (show w.heap.size ≤ (W1.setCell ⟨w.heap.size, k, none⟩ (.int .u8 (bits .xor .u8 x a3))).heap.size from KB2.out.size)
        have HX := Aside0.mk (show strOfNums ((bytesOf s).set k (bits .xor .u8 x a3)) = spoil s k a3 by unfold spoil; rw [KX.out])
        have KT := fun (W : World) (h : ReadsInt W .u8 (some ⟨w.heap.size, 0, none⟩) s.size ((bytesOf s).set k (bits .xor .u8 x a3))) => Kd.C_string (P := Try.prog) (src := 46) (dst := 9) (c := cap) Try.underlying46 Try.underlying5 Try.underlying9 (Kd.C_of_reads (enc := Value.int .u8) (d := (0 : Int)) (h1 := fun _ => rfl) h)
        have KTT := Aside0.mk KT
        clear KT
        have HCL := Aside0.mk (XCloneStr.slices_Clone.calls (some ad) c0 l0 l0 _ (by rw [← HN.out]; exact KC2.out) (by rw [← HN.out]; exact hc0) (if_pos (by rw [← HN.out]; exact c)))
        rw [← HN.out] at HCL
        go_enter Try.func12, Try.ntmps12
        go_wp2_with (go_at_call 23; refine hth.mono ?_; rintro e w1 ⟨rfl, rfl⟩)
        refine HCL.out.mono ?_
        clear HCL
        rintro e w3 ⟨v3, rfl, ho3, hb3⟩
        obtain ⟨g, cc, u, rfl, q1, q2, q3, q4, q5, q6⟩ := own_put ho3 HN.out i2
        have KT3 := KTT.out w3 (ReadsInt.below KR2.out hb3)
        obtain ⟨t, ht⟩ : ∃ t, t = strOfNums ((bytesOf s).set k (bits .xor .u8 x a3)) := ⟨_, rfl⟩
        rw [← ht] at KT3
        have HT := Aside0.mk (ht.trans HX.out)
        have HQ := Aside0.mk (Kd.R_bound (q6 t))
        have HB3 := Aside0.mk ((KB2.out.trans (hb3.mono KZ.out)).setCell (p := ⟨g, i, none⟩) (Nat.le_trans KZ.out q3) (.string t))
        clear q6 ho3 hb3 ht q3
        go_wp2
        go_ret2
        refine ⟨_, rfl, ?_, HB3.out⟩
        rw [← HT.out]
        exact Kd.R_V (Kd.R_mono HQ.out (fun k hk => .inr (Nat.le_trans KZ.out hk.2.1)))
  · rw [if_neg c] at h
    exact absurd h (by simp)
theorem infoE : (Try.prog.info? 9).map (fun i => (i.zero, i.size, i.bytes)) = some (some (.string ⟨#[]⟩), 1, 16) := by kernel_rfl
def rollcallref22_Corrupt.f := corruptF
set_option maxHeartbeats 16000000 in
set_option maxRecDepth 100000 in
theorem rollcallref22_Corrupt.calls (P0_ : Nat → Prop) (A0 : Option Addr) (c0 : Nat) (l0 : List ByteArray) (a1 : Int) (a2 : Int) (a3 : Int) (r1 : List ByteArray) (r2 : Int) (w : World) (hs0 : Kd.V Kd.string 9 w w.heap.size (fun k_ => P0_ k_) (.slice A0 l0.length c0) l0) (h : rollcallref22_Corrupt.f l0 a1 a2 a3 = some (r1, r2)) :
    Calls Try.prog 13 #[.slice A0 l0.length c0, .int .i64 a1, .int .i64 a2, .int .i64 a3] w fun e w' => ∃ v0_ : Value, e = .returned (.tuple #[v0_, .int .i64 r2]) ∧ Kd.V Kd.string 9 w' w.heap.size (fun k_ => (P0_ k_ ∨ w.heap.size ≤ k_)) v0_ r1 ∧ Below w.heap.size w w' := by
  unfold rollcallref22_Corrupt.f corruptF at h
  by_cases c : l0.length < 8796093022208 ∧ (rdOf ByteArray.empty l0 a1).size ≤ 9223372036854775807
  · rw [if_pos c] at h
    replace h := Option.some.inj h
    obtain ⟨c, ss⟩ := c
    have SS := Aside0.mk ss
    clear ss
    have hV := Kd.V_mono hs0 (ok' := fun k_ => (P0_ k_ ∨ w.heap.size ≤ k_)) (fun k hk => .inl hk)
    have hC := (Kd.V_reads' hs0).2.2
    have hc0 := (Kd.V_reads' hs0).2.1
    clear hs0
    obtain ⟨n, hn⟩ : ∃ n, n = l0.length := ⟨_, rfl⟩
    rw [← hn] at c h hV hC hc0 ⊢
    have HV := Aside0.mk hV
    have HC := Aside0.mk hC
    have HN := Aside0.mk hn
    clear hV hC hn
    by_cases c1 : a1 < 0 ∨ a1 ≥ (n : Int)
    · rw [if_pos c1] at h
      obtain ⟨rfl, rfl⟩ : l0 = r1 ∧ 6 = r2 := by simpa using h
      clear h
      rcases c1 with c1 | c1
      · go_enter Try.func13, Try.ntmps13
        go_wp2
        go_ret2
        exact ⟨_, rfl, HV.out, Below.refl _ _⟩
      · have c2 : (n : Int) ≤ a1 := c1
        have c3 : 0 ≤ a1 := by omega
        clear c1
        go_enter Try.func13, Try.ntmps13
        go_wp2
        go_ret2
        exact ⟨_, rfl, HV.out, Below.refl _ _⟩
    · rw [if_neg c1] at h
      have i0 : 0 ≤ a1 := by omega
      have i1 : a1 < n := by omega
      clear c1
      obtain ⟨ad, hA, hcell⟩ := Kd.at_string HC.out a1 i0 i1
      subst hA
      obtain ⟨i, rfl⟩ := Int.eq_ofNat_of_zero_le i0
      obtain ⟨s, hs⟩ : ∃ s, s = rdOf ByteArray.empty l0 (i : Int) := ⟨_, rfl⟩
      rw [← hs] at h hcell
      rw [Int.toNat_natCast] at hcell h
      have i2 : i < n := by omega
      have HS := Aside0.mk hs
      clear hs i0 i1
      by_cases c2 : s.size = 0 ∨ a2 < 0 ∨ a3 < 1 ∨ a3 > 255
      · rw [if_pos c2] at h
        obtain ⟨rfl, rfl⟩ : l0 = r1 ∧ 1 = r2 := by simpa using h
        clear h
        by_cases d1 : s.size = 0
        · obtain ⟨e1, e2⟩ := empty_yes d1
          clear c2 d1 HS
          go_enter Try.func13, Try.ntmps13
          go_wp2
          go_ret2
          exact ⟨_, rfl, HV.out, Below.refl _ _⟩
        · obtain ⟨e1, e2⟩ := empty_no (s := s) (by omega)
          by_cases d2 : a2 < 0
          · clear c2 d1 HS
            go_enter Try.func13, Try.ntmps13
            go_wp2
            go_ret2
            exact ⟨_, rfl, HV.out, Below.refl _ _⟩
          · by_cases d3 : a3 < 1
            · have d2' : 0 ≤ a2 := by omega
              clear c2 d1 HS d2
              go_enter Try.func13, Try.ntmps13
              go_wp2
              go_ret2
              exact ⟨_, rfl, HV.out, Below.refl _ _⟩
            · have d2' : 0 ≤ a2 := by omega
              have d3' : 1 ≤ a3 := by omega
              have d4 : 256 ≤ a3 := by omega
              clear c2 d1 HS d2 d3
              go_enter Try.func13, Try.ntmps13
              go_wp2
              go_ret2
              exact ⟨_, rfl, HV.out, Below.refl _ _⟩
      · rw [if_neg c2] at h
        obtain ⟨rfl, rfl⟩ : l0.set i (spoil s (a2 % (s.size : Int)).toNat a3) = r1 ∧ 0 = r2 := by simpa using h
        clear h
        have s0 : 0 < s.size := by omega
        have p0 : 0 ≤ a2 := by omega
        have m0 : 1 ≤ a3 := by omega
        have m1 : a3 ≤ 255 := by omega
        obtain ⟨e1, e2⟩ := empty_no s0
        have ss : s.size ≤ 9223372036854775807 := by rw [HS.out]; exact SS.out
        obtain ⟨k, hk⟩ : ∃ k : Nat, a2 % (s.size : Int) = k := ⟨(a2 % (s.size : Int)).toNat, by have := Int.emod_nonneg a2 (b := (s.size : Int)) (by omega); omega⟩
        have hk1 : k < s.size := by have := Int.emod_lt_of_pos a2 (b := (s.size : Int)) (by omega); omega
        rw [hk, Int.toNat_natCast]
        have kb := print_bytes (P := Try.prog) 9 46 5 Try.underlying9 Try.underlying46 Try.underlying5 s w
        obtain ⟨x, hx⟩ : ∃ x, x = bt s (k : Int) := ⟨_, rfl⟩
        have kc := Lib.bytesWorld_cell w 5 s k hk1
        have kx : ((s.data.toList.getD k 0).toNat : Int) = x := by
          rw [hx, ← rd_bytesOf]
          unfold rd bytesOf
          simp only [Int.toNat_natCast, List.getD_eq_getElem?_getD, List.getElem?_map, List.getElem?_eq_getElem (show k < s.data.toList.length by rw [data_length]; exact hk1), Option.map_some, Option.getD_some]
        rw [show (Value.int IntKind.u8 ((s.data.toList.getD k 0).toNat : Int)) = Value.int .u8 x by rw [← kx]] at kc
        have kf : (Lib.bytesWorld w 5 s).frozen? ⟨w.heap.size, k, none⟩ = false := by
          exact bytes_free w 5 s k (by have := bytes_len w 5 s; omega)
        have kB := bytes_below (Below.refl w.heap.size w) (Nat.le_refl _) 5 s
        have kR := bytes_reads w 5 s ss
        obtain ⟨cap, hcap⟩ : ∃ cap, cap = grownCap w s.size 0 5 := ⟨_, rfl⟩
        rw [← hcap] at kb
        have kS := Lib.bytesWorld_size w 5 s
        obtain ⟨W1, hW1⟩ : ∃ W1, W1 = Lib.bytesWorld w 5 s := ⟨_, rfl⟩
        rw [← hW1] at kb kc kf kB kR kS
        have KR := Aside0.mk kR
        have KX := Aside0.mk hx
        have KB := Aside0.mk kB
        have z1 : ¬ (s.size = 0) := by omega
        have z2 : ((s.size : Int) == 0) = false := beq_eq_false_iff_ne.mpr (by omega)
        have kS2 : w.heap.size < W1.heap.size := by omega
        have hk2 : (k : Int) < (s.size : Int) := by omega
        clear kx hcap hW1 kR hx kB c2 HS kS
        have KB2 := Aside0.mk (KB.out.setCell (p := ⟨w.heap.size, k, none⟩) (Nat.le_refl _) (.int .u8 (bits .xor .u8 x a3)))
        have KR2 := Aside0.mk (bytes_set KR.out k hk1 (bits .xor .u8 x a3))
        have KC2 := Aside0.mk (show Kd.C Kd.string (W1.setCell ⟨w.heap.size, k, none⟩ (.int .u8 (bits .xor .u8 x a3))) (some ad) n l0 from Kd.C_below HC.out KB2.out)
        have KZ := Aside0.mk (show w.heap.size ≤ (W1.setCell ⟨w.heap.size, k, none⟩ (.int .u8 (bits .xor .u8 x a3))).heap.size from KB2.out.size)
        have HX := Aside0.mk (show strOfNums ((bytesOf s).set k (bits .xor .u8 x a3)) = spoil s k a3 by unfold spoil; rw [KX.out])
        have KT := fun (W : World) (h : ReadsInt W .u8 (some ⟨w.heap.size, 0, none⟩) s.size ((bytesOf s).set k (bits .xor .u8 x a3))) => Kd.C_string (P := Try.prog) (src := 46) (dst := 9) (c := cap) Try.underlying46 Try.underlying5 Try.underlying9 (Kd.C_of_reads (enc := Value.int .u8) (d := (0 : Int)) (h1 := fun _ => rfl) h)
        have KTT := Aside0.mk KT
        clear KT
        have HB := Aside0.mk (Below.refl (W1.setCell ⟨w.heap.size, k, none⟩ (.int .u8 (bits .xor .u8 x a3))).heap.size (W1.setCell ⟨w.heap.size, k, none⟩ (.int .u8 (bits .xor .u8 x a3))))
        obtain rfl := HN.out
        go_enter Try.func13, Try.ntmps13
        go_wp2_with (first | ((with_reducible refine gate_dst (N := 59) rfl ?_); refine Kd.R_lit Kd.string _ 9 ?hg (N := 59) ?hd (xs := ([] : List ByteArray)) (inner := []) (ok := fun _ => True) (okp := fun _ => True) ?hr ?hp (fun _ hk => hk) trivial (Below.refl _ _) (Nat.le_refl _) (by simp) ?_; (case hd => rfl); (case hg => rfl); (case hr => first | (go_simp; done) | (go_simp; rfl)); (case hp => exact (Reps.none _ _)); intro v_HOa w_HOa ho3 hb hg_ hnew_; clear hg_ hnew_; have n0_ := Aside0.mk (Kd.R_lower ho3 (below_size (by repeat (first | (with_reducible first | exact HB.out | apply below_alloc | apply pw_below_drewN | apply below_drew1) | exact HB.out)))); have n1_ := Aside0.mk (below_step (by repeat (first | (with_reducible first | exact HB.out | apply below_alloc | apply pw_below_drewN | apply below_drew1) | exact HB.out)) hb); clear HB; have HOa := n0_; have HB := n1_; clear n0_ n1_; clear hb ho3) | ((with_reducible refine gate_builtin (b := .append) (xs := #[.tmp 59, .tmp 60]) rfl ?_); at_builtin; refine Kd.R_append_rows Kd.string (w0 := (W1.setCell ⟨w.heap.size, k, none⟩ (.int .u8 (bits .xor .u8 x a3)))) (W1.setCell ⟨w.heap.size, k, none⟩ (.int .u8 (bits .xor .u8 x a3))).heap.size rfl (.tmp 59) (.tmp 60) 22 9 (.string ⟨#[]⟩) 16 rfl Try.underlying22 infoE rfl (by decide) (by omega) v_HOa ([] : List ByteArray) l0 _ _ _ (fun _ => True) (fun _ => False) rfl rfl ?aO ?aR (fun _ _ h => h) (fun _ h => h.elim) ?aF ?aB ?aS ?aL ?_; (case aR => repeat (first | exact (Kd.C_below KC2.out HB.out) | (with_reducible refine Kd.C_alloc ?_ _) | (with_reducible refine Kd.C_drewN ?_ _) | (with_reducible refine Kd.C_drew ?_))); (case aB => exact (by repeat (first | (with_reducible first | exact HB.out | apply below_alloc | apply pw_below_drewN | apply below_drew1) | exact HB.out))); (case aF => exact (fun _ _ => trivial)); (case aO => exact (by (with_reducible repeat (first | apply Kd.R_alloc | apply Kd.R_drewN | apply Kd.R_drew)); exact HOa.out)); (case aS => exact (below_size (by repeat (first | (with_reducible first | exact HB.out | apply below_alloc | apply pw_below_drewN | apply below_drew1) | exact HB.out)))); (case aL => simp only [List.length_nil, Nat.zero_add]; omega); intro v_HOb w_HOb ho hb hg hat; have n0_ := Aside0.mk (hb); have n1_ := Aside0.mk (ho); clear HB; clear HOa; have HB := n0_; have HOb := n1_; clear n0_ n1_; clear ho hb hg hat; obtain ⟨g, cc, u, rfl, q1, q2, q3, q4, q5, q6⟩ := own_put HOb.out (n := l0.length) (i := i) rfl (by omega); have KT3 := KTT.out w_HOb (ReadsInt.below KR2.out HB.out); obtain ⟨t, ht⟩ : ∃ t, t = strOfNums ((bytesOf s).set k (bits .xor .u8 x a3)) := ⟨_, rfl⟩; rw [← ht] at KT3; have HT := Aside0.mk (ht.trans HX.out); have HQ := Aside0.mk (Kd.R_bound (q6 t)); have HB3 := Aside0.mk ((KB2.out.trans (HB.out.mono KZ.out)).setCell (p := ⟨g, i, none⟩) (Nat.le_trans KZ.out q3) (.string t)); clear q6 HOb ht q3 HB))
        go_ret2
        refine ⟨_, rfl, ?_, HB3.out⟩
        rw [← HT.out]
        exact Kd.R_V (Kd.R_mono HQ.out (fun k hk => .inr (Nat.le_trans KZ.out hk.2.1)))
  · rw [if_neg c] at h
    exact absurd h (by simp)
end Go.Proofs.Ytgnjbiofjjcioaa.XCorrupt
