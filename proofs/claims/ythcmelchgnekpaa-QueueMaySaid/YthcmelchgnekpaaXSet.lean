/- digest.Set, walked where a contact is taken out of a table (a change that is not On). -/
import Derived.Test.YthcmelchgnekpaaProg
import Derived.Below
import Derived.Deep.Draws
import Derived.Deep.AppendLies
import Derived.Maps.AppendAt
import Derived.OwnWalk
import Derived.Laws.BytesArg
import Derived.Laws.MakeOwn
import Derived.Laws.OwnMore
import Derived.Deep.OwnRows
import Derived.Tactics
import Derived.Lib.ConvBytes
import Derived.Laws.Slices
import Derived.WalkKit
import Derived.KernelRfl
import Derived.RowKit3
import Derived.Deep.LoopGhost
import Derived.Deep.QuietTactic
import Derived.BigQuiet
import Derived.WideLaws
import Derived.Deep.DeepCutAuto
import Derived.Deep.CutBlock
import Derived.Deep.RegionHeld3
import Derived.Laws.Rows
import Derived.Lib.AppendStr
import Derived.ArgAppend
import Derived.Laws.IdiomCopy
import Derived.OrdersHeld
import Derived.Laws.BitsLemmas
import Derived.RowKit
import Derived.Test.YthcmelchgnekpaaWWords
import Derived.Test.YthcmelchgnekpaaWLast
import Derived.Test.YthcmelchgnekpaaWTab
import Derived.Test.YthcmelchgnekpaaWFour
import Derived.Test.YthcmelchgnekpaaWQPut
import Derived.Test.YthcmelchgnekpaaWApart
import Derived.Test.YthcmelchgnekpaaWArr
import Derived.Test.YthcmelchgnekpaaWZeros
import Derived.Test.YthcmelchgnekpaaWFoot
import Derived.Test.YthcmelchgnekpaaWKept
import Derived.Test.YthcmelchgnekpaaWShare
import Derived.Test.YthcmelchgnekpaaWN
import Derived.Test.YthcmelchgnekpaaWFootNe
import Derived.Test.YthcmelchgnekpaaWAt
import Derived.Test.YthcmelchgnekpaaWEqStruct
import Derived.Test.YthcmelchgnekpaaWRepsOne
import Derived.Test.YthcmelchgnekpaaWInv
import Derived.Test.YthcmelchgnekpaaWInvWords
import Derived.Test.YthcmelchgnekpaaWGuard
import Derived.Test.YthcmelchgnekpaaWNEv
import Derived.Test.YthcmelchgnekpaaWMore
import Derived.Test.YthcmelchgnekpaaXDelF
import Derived.Test.YthcmelchgnekpaaXCloneSeen
namespace Go.Proofs.Ythcmelchgnekpaa.XSet
open Go.RowKit Go.Proofs.YthcmelchgnekpaaW.PrintWords Go.Proofs.YthcmelchgnekpaaW.PrintLast Go.Proofs.YthcmelchgnekpaaW.PrintMore Go.Proofs.Ythcmelchgnekpaa.PA Go.Proofs.Ythcmelchgnekpaa.XDel Go.Proofs.Ythcmelchgnekpaa.XDelF
set_option linter.unusedVariables false
set_option linter.unusedSimpArgs false
def digest_Set.f (l : List Sn) (n : ByteArray) (on : Bool) (a b c : Int) (t : ByteArray) : Option (List Sn) :=
  if l.length < 2513169434916 ∧ on = false then some (l.filter fun x => !is n x) else none
set_option maxHeartbeats 8000000 in
set_option maxRecDepth 100000 in
theorem digest_Set.calls (A0 : Option Addr) (c0 : Nat) (l0 : List Sn) (a1_0 : ByteArray) (a1_1 : Bool) (a1_2 : Int) (a1_3 : Int) (a1_4 : Int) (a1_5 : ByteArray) (r : List Sn) (w : World) (hr0 : Kd.C kS w A0 l0.length l0) (hc0 : l0.length ≤ c0) (h : digest_Set.f l0 a1_0 a1_1 a1_2 a1_3 a1_4 a1_5 = some r) :
    Calls Try.prog 29 #[.slice A0 l0.length c0, .agg #[.string a1_0, .bool a1_1, .int .i64 a1_2, .int .i64 a1_3, .int .i64 a1_4, .string a1_5]] w fun e w' => ∃ v0_ : Value, e = .returned (v0_) ∧ Kd.R kS 52 w' w.heap.size (fun _ => True) v0_ r ∧ Below w.heap.size w w' := by
  unfold digest_Set.f at h
  by_cases hl : l0.length < 2513169434916 ∧ a1_1 = false
  rotate_left
  · rw [if_neg hl] at h; cases h
  rw [if_pos hl] at h
  obtain rfl := Option.some.inj h
  obtain ⟨hl, rfl⟩ := hl
  clear h
  have hB := below_alloc (Below.refl _ w) (.cells #[.string a1_0, .bool false, .int .i64 a1_2, .int .i64 a1_3, .int .i64 a1_4, .string a1_5] 33)
  have hk := blk_new w (.cells #[.string a1_0, .bool false, .int .i64 a1_2, .int .i64 a1_3, .int .i64 a1_4, .string a1_5] 33)
  have hz : w.heap.size + 1 = (w.alloc (.cells #[.string a1_0, .bool false, .int .i64 a1_2, .int .i64 a1_3, .int .i64 a1_4, .string a1_5] 33)).heap.size := by simp
  have HR := Aside0.mk (Kd.C_below hr0 hB)
  have HC := Aside0.mk hc0
  have HL := Aside0.mk (show XCloneSeen.slices_Clone.f l0 = some l0 by unfold XCloneSeen.slices_Clone.f; rw [if_pos hl])
  have HB0 := Aside0.mk hB
  have HK := Aside0.mk hk
  clear hr0 hc0 hl
  go_enter Try.func29, Try.ntmps29
  go_upto_region 1 with (fail)
  generalize w.alloc (.cells #[.string a1_0, .bool false, .int .i64 a1_2, .int .i64 a1_3, .int .i64 a1_4, .string a1_5] 33) = W at HR HB0 HK hB hk hz ⊢
  have b0 := (blk_cell hk 0).trans rfl
  have hlt : w.heap.size < W.heap.size := by omega
  clear hB hk hz
  go_wp2_with (first | (go_at_call 43; refine (XCloneSeen.slices_Clone.calls A0 c0 l0 l0 W HR.out HC.out HL.out).mono ?_; rintro e w1 ⟨v1, rfl, ho1, hb1⟩; have HO := Aside0.mk ho1; have HB := Aside0.mk hb1; clear ho1 hb1) | (go_at_call 42; refine (delete_func a1_0 w.heap.size W w1 v1 l0 HB.out HO.out hlt b0).mono ?_; rintro e w2 ⟨v2, rfl, ho1, hb1⟩; clear HO HB; have HO := Aside0.mk ho1; have HB := Aside0.mk hb1; have hk2 := blk_below HK.out hb1; have c1 := (blk_cell hk2 1).trans rfl; clear ho1 hb1 hk2 b0))
  go_ret
  exact ⟨_, rfl, Kd.R_lower HO.out HB0.out.size, below_step HB0.out HB.out⟩
end Go.Proofs.Ythcmelchgnekpaa.XSet
