/- digest.Set, walked: a contact's row is taken out of a table, and put in anew. -/
import Derived.Test.YthcmelchgnekpaaProg
import Derived.Below
import Derived.Deep.Draws
import Derived.Deep.AppendLies
import Derived.Maps.AppendAt
import Derived.OwnWalk
import Derived.Laws.BytesArg
import Derived.Laws.MakeOwn
import Derived.Laws.OwnMore
import Derived.Deep.OwnRows
import Derived.Tactics
import Derived.Lib.ConvBytes
import Derived.Laws.Slices
import Derived.WalkKit
import Derived.KernelRfl
import Derived.RowKit3
import Derived.Deep.LoopGhost
import Derived.Deep.QuietTactic
import Derived.BigQuiet
import Derived.WideLaws
import Derived.Deep.DeepCutAuto
import Derived.Deep.CutBlock
import Derived.Deep.RegionHeld3
import Derived.Laws.Rows
import Derived.Lib.AppendStr
import Derived.ArgAppend
import Derived.Laws.IdiomCopy
import Derived.OrdersHeld
import Derived.Laws.BitsLemmas
import Derived.RowKit
import Derived.Test.YthcmelchgnekpaaWWords
import Derived.Test.YthcmelchgnekpaaWLast
import Derived.Test.YthcmelchgnekpaaWTab
import Derived.Test.YthcmelchgnekpaaWFour
import Derived.Test.YthcmelchgnekpaaWQPut
import Derived.Test.YthcmelchgnekpaaWApart
import Derived.Test.YthcmelchgnekpaaWArr
import Derived.Test.YthcmelchgnekpaaWZeros
import Derived.Test.YthcmelchgnekpaaWFoot
import Derived.Test.YthcmelchgnekpaaWKept
import Derived.Test.YthcmelchgnekpaaWShare
import Derived.Test.YthcmelchgnekpaaWN
import Derived.Test.YthcmelchgnekpaaWFootNe
import Derived.Test.YthcmelchgnekpaaWAt
import Derived.Test.YthcmelchgnekpaaWEqStruct
import Derived.Test.YthcmelchgnekpaaWRepsOne
import Derived.Test.YthcmelchgnekpaaWInv
import Derived.Test.YthcmelchgnekpaaWInvWords
import Derived.Test.YthcmelchgnekpaaWGuard
import Derived.Test.YthcmelchgnekpaaWNEv
import Derived.Test.YthcmelchgnekpaaWMore
import Derived.Test.YthcmelchgnekpaaXDelF
import Derived.Test.YthcmelchgnekpaaXIns2
import Derived.Test.YthcmelchgnekpaaXLess
import Derived.Test.YthcmelchgnekpaaXCloneSeen
import Derived.Test.YthcmelchgnekpaaXMem
namespace Go.Proofs.Ythcmelchgnekpaa.XSet
open Go.RowKit Go.Proofs.YthcmelchgnekpaaW.PrintWords Go.Proofs.YthcmelchgnekpaaW.PrintLast Go.Proofs.YthcmelchgnekpaaW.PrintMore Go.Proofs.Ythcmelchgnekpaa.PA Go.Proofs.Ythcmelchgnekpaa.XDel Go.Proofs.Ythcmelchgnekpaa.XDelF Go.Proofs.Ythcmelchgnekpaa.XIns Go.Proofs.Ythcmelchgnekpaa.XLess
set_option linter.unusedVariables false
set_option linter.unusedSimpArgs false
/-- Behind the last row that is less. -/
def atL (n : ByteArray) : List Sn → Nat → Nat → Nat
  | [], _, a => a
  | x :: t, i, a => atL n t (i + 1) (if lessB x.f0 n = true then i + 1 else a)
def setL (l : List Sn) (n : ByteArray) (on : Bool) (a b c : Int) (t : ByteArray) : List Sn :=
  if on = true then insL (l.filter fun x => !is n x) (atL n (l.filter fun x => !is n x) 0 0) ⟨n, ⟨a, b, c, t⟩⟩ else l.filter fun x => !is n x
def digest_Set.f (l : List Sn) (n : ByteArray) (on : Bool) (a b c : Int) (t : ByteArray) : Option (List Sn) :=
  if l.length < 1000000 then some (setL l n on a b c t) else none
theorem filt_len (l : List Sn) (n : ByteArray) : (l.filter fun x => !is n x).length ≤ l.length := List.length_filter_le _ _
set_option maxHeartbeats 8000000 in
set_option maxRecDepth 100000 in
theorem digest_Set.calls (A0 : Option Addr) (c0 : Nat) (l0 : List Sn) (a1_0 : ByteArray) (a1_1 : Bool) (a1_2 : Int) (a1_3 : Int) (a1_4 : Int) (a1_5 : ByteArray) (r : List Sn) (w : World) (hr0 : Kd.C kS w A0 l0.length l0) (hc0 : l0.length ≤ c0) (h : digest_Set.f l0 a1_0 a1_1 a1_2 a1_3 a1_4 a1_5 = some r) :
    Calls Try.prog 29 #[.slice A0 l0.length c0, .agg #[.string a1_0, .bool a1_1, .int .i64 a1_2, .int .i64 a1_3, .int .i64 a1_4, .string a1_5]] w fun e w' => ∃ v0_ : Value, e = .returned (v0_) ∧ Kd.R kS 52 w' w.heap.size (fun _ => True) v0_ r ∧ Below w.heap.size w w' := by
  unfold digest_Set.f at h
  by_cases hl : l0.length < 1000000
  rotate_left
  · rw [if_neg hl] at h; cases h
  rw [if_pos hl] at h
  have hs := Option.some.inj h
  clear h
  have HS := Aside0.mk hs
  clear hs
  have hB := below_alloc (Below.refl _ w) (.cells #[.string a1_0, .bool a1_1, .int .i64 a1_2, .int .i64 a1_3, .int .i64 a1_4, .string a1_5] 33)
  have hk := blk_new w (.cells #[.string a1_0, .bool a1_1, .int .i64 a1_2, .int .i64 a1_3, .int .i64 a1_4, .string a1_5] 33)
  have hz : w.heap.size + 1 = (w.alloc (.cells #[.string a1_0, .bool a1_1, .int .i64 a1_2, .int .i64 a1_3, .int .i64 a1_4, .string a1_5] 33)).heap.size := by simp
  have HR := Aside0.mk (Kd.C_below hr0 hB)
  have HC := Aside0.mk hc0
  have HL := Aside0.mk (show XCloneSeen.slices_Clone.f l0 = some l0 by unfold XCloneSeen.slices_Clone.f; rw [if_pos (by omega)])
  have HB0 := Aside0.mk hB
  have HK := Aside0.mk hk
  have HLL := Aside0.mk hl
  clear hr0 hc0 hl
  go_enter Try.func29, Try.ntmps29
  go_upto_region 1 with (fail)
  generalize w.alloc (.cells #[.string a1_0, .bool a1_1, .int .i64 a1_2, .int .i64 a1_3, .int .i64 a1_4, .string a1_5] 33) = W at HR HB0 HK hB hk hz ⊢
  have b0 := (blk_cell hk 0).trans rfl
  have hlt : w.heap.size < W.heap.size := by omega
  clear hB hk hz
  go_wp2_with fail
  refine (XCloneSeen.slices_Clone.calls A0 c0 l0 l0 W HR.out HC.out HL.out).mono ?_
  rintro e w1 ⟨v1, rfl, ho1, hb1⟩
  go_wp2_with fail
  refine (delete_func a1_0 w.heap.size W w1 v1 l0 hb1 ho1 hlt b0).mono ?_
  rintro e w2 ⟨v2, rfl, ho2, hb2⟩
  have hk2 := blk_below HK.out hb2
  have c0' := (blk_cell hk2 0).trans rfl
  have c1' := (blk_cell hk2 1).trans rfl
  have c2' := (blk_cell hk2 2).trans rfl
  have c3' := (blk_cell hk2 3).trans rfl
  have c4' := (blk_cell hk2 4).trans rfl
  have c5' := (blk_cell hk2 5).trans rfl
  have HF := Aside0.mk (Nat.lt_of_le_of_lt (filt_len l0 a1_0) HLL.out)
  have hs := HS.out
  unfold setL at hs
  clear HS
  generalize (l0.filter fun x => !is a1_0 x) = rest at ho2 HF hs
  clear ho1 hb1 b0 HR HC HL HLL
  have HBW := Aside0.mk (below_step HB0.out hb2)
  cases a1_1 with
  | false =>
    rw [if_neg (by simp)] at hs
    subst hs
    clear hk2
    go_wp2
    go_ret
    exact ⟨_, rfl, Kd.R_lower ho2 HB0.out.size, HBW.out⟩
  | true =>
    rw [if_pos rfl] at hs
    have HS := Aside0.mk hs
    clear hs
    obtain ⟨A, c, rfl⟩ := Kd.R_slice ho2
    have HO := Aside0.mk ho2
    have HK2 := Aside0.mk hk2
    have hz2 : W.heap.size ≤ w2.heap.size := hb2.size
    have f1 : (rest.length : Int) < 1000000 := by have := HF.out; omega
    clear ho2 hk2 hb2
    have HB2 := Aside0.mk (Below.refl w2.heap.size w2)
    go_wp2
    go_loopw [6, 19] (fun a i wr => ∃ k j : Nat, k ≤ rest.length ∧ i = .int .i64 k ∧ a = .int .i64 j ∧ j ≤ k ∧ Aside0 (Below w2.heap.size w2 wr) ∧ Aside0 (atL a1_0 rest 0 0 = atL a1_0 (rest.drop k) k j)) (fun _ i _ => rest.length - (intOf i).toNat)
    case atStart => exact ⟨0, 0, Nat.zero_le _, rfl, rfl, Nat.le_refl _, HB2, ⟨by rw [List.drop_zero]⟩⟩
    case round =>
      clear HB2 c0' c1' c2' c3' c4' c5'
      obtain ⟨k, j, hk, rfl, rfl, hj, HB, HI⟩ := hrel
      by_cases hlt : k < rest.length
      · have hrd := Kd.R_reads' HO.out
        obtain ⟨ad, hA, h0, h1, h2, h3, h4⟩ := at_T52 (Kd.C_below hrd.2.2 HB.out) (k : Int) (by omega) (by omega)
        clear hrd
        subst hA
        rw [Int.toNat_natCast] at h0 h1 h2 h3 h4
        have hd : rest.drop k = rest[k] :: rest.drop (k + 1) := List.drop_eq_getElem_cons hlt
        have hx : rd_T52 rest (k : Int) = rest[k] := by
          unfold rd_T52
          rw [Int.toNat_natCast, List.getD_eq_getElem?_getD, List.getElem?_eq_getElem hlt]
          rfl
        rw [← hx] at hd
        rw [hd] at HI
        clear hx hd
        generalize rd_T52 rest (k : Int) = x at h0 h1 h2 h3 h4 HI
        have e0 := (blk_cell (blk_below HK2.out HB.out) 0).trans rfl
        have hls := fun W' : World => ident_Less.calls x.f0 a1_0 (lessB x.f0 a1_0) W' rfl
        have g0 : (k : Int) < (rest.length : Int) := by omega
        go_upto_region 8 with (fail)
        generalize hg : World.alloc _ _ = w4
        have hb4 : Below wr.heap.size wr w4 := hg ▸ below_alloc (Below.refl _ _) _
        have hn4 := Go.Proofs.Ythcmelchgnekpaa.XMem.al_new hg
        have d0 := (blk_cell hn4 0).trans rfl
        have e1 := pw_cell_below hb4 e0
        clear hg h0 h1 h2 h3 h4 e0 hn4
        generalize wr.heap.size = p8 at d0 ⊢
        go_wp2_with fail
        refine (hls w4).mono ?_
        rintro e w5 ⟨rfl, hb5⟩
        have HB5 := Aside0.mk (below_step HB.out (below_step hb4 hb5))
        clear hls hb4 hb5 d0 e1 HB
        by_cases hb : lessB x.f0 a1_0 = true
        · have HE := Aside0.mk (show atL a1_0 rest 0 0 = atL a1_0 (rest.drop (k + 1)) (k + 1) (k + 1) by rw [HI.out, atL, if_pos hb])
          rw [hb]
          clear HI hb
          go_wp2
          go_roundw
          case rel => exact ⟨k + 1, k + 1, by omega, by go_num, by go_num, Nat.le_refl _, HB5, HE⟩
          case measure => simp [intOf]; omega
        · have HE := Aside0.mk (show atL a1_0 rest 0 0 = atL a1_0 (rest.drop (k + 1)) (k + 1) j by rw [HI.out, atL, if_neg hb])
          rw [Bool.eq_false_iff.mpr hb]
          clear HI hb
          go_wp2
          go_roundw
          case rel => exact ⟨k + 1, j, by omega, by go_num, rfl, by omega, HB5, HE⟩
          case measure => simp [intOf]; omega
      · obtain rfl : k = rest.length := by omega
        have HE := Aside0.mk (show atL a1_0 rest 0 0 = j by rw [HI.out, List.drop_length]; rfl)
        clear HI
        have hk3 := blk_below HK2.out HB.out
        have e0 := (blk_cell hk3 0).trans rfl
        have e2 := (blk_cell hk3 2).trans rfl
        have e3 := (blk_cell hk3 3).trans rfl
        have e4 := (blk_cell hk3 4).trans rfl
        have e5 := (blk_cell hk3 5).trans rfl
        clear hk3
        go_wp2_with fail
        generalize hg : World.alloc _ _ = w4
        have hb4 : Below wr.heap.size wr w4 := hg ▸ below_alloc (Below.refl _ _) _
        have hn4 : w4.heap[wr.heap.size]? = some (.cells (enc ⟨a1_0, ⟨a1_2, a1_3, a1_4, a1_5⟩⟩).toArray TE (0, 0)) := by rw [← hg]; exact heap_alloc_new wr _
        have hR3 := Kd.R_below HO.out HB.out
        have hne : some wr.heap.size ≠ (Value.slice A rest.length c).ownBlock := fun e => Nat.lt_irrefl _ (Kd.R_lt hR3 _ e.symm)
        have hzr : W.heap.size ≤ w4.heap.size := Nat.le_trans hz2 (Nat.le_trans HB.out.size hb4.size)
        refine (insert_calls (Kd.R_below hR3 hb4) hzr HF.out j hj ⟨a1_0, ⟨a1_2, a1_3, a1_4, a1_5⟩⟩ wr.heap.size hn4 hne).mono ?_
        rintro e w5 ⟨v5, rfl, hR5, hb5⟩
        clear hg e0 e2 e3 e4 e5 hn4 hne
        go_wp2
        go_ret
        refine ⟨v5, rfl, ?_, ?_⟩
        · rw [← HS.out, HE.out]
          exact Kd.R_lower hR5 HB0.out.size
        · have q := below_step HBW.out (below_step HB.out hb4)
          exact q.trans (hb5.mono HB0.out.size)
end Go.Proofs.Ythcmelchgnekpaa.XSet
