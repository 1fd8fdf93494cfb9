/- slices.Delete of []string, of one element: a row of the call's own, made shorter in place; told of places that are there. -/
import Derived.Test.YtgnjbiofjjcioaaProg
import Derived.Below
import Derived.Deep.Draws
import Derived.Deep.AppendLies
import Derived.Maps.AppendAt
import Derived.OwnWalk
import Derived.Laws.BytesArg
import Derived.Laws.MakeOwn
import Derived.Laws.OwnMore
import Derived.Deep.OwnRows
import Derived.Tactics
import Derived.Lib.ConvBytes
import Derived.Laws.Slices
import Derived.WalkKit
import Derived.KernelRfl
import Derived.RowKit3
import Derived.Deep.LoopGhost
import Derived.Deep.QuietTactic
import Derived.BigQuiet
import Derived.WideLaws
import Derived.Deep.DeepCutAuto
import Derived.Deep.CutBlock
import Derived.Deep.RegionHeld3
import Derived.Laws.Rows
import Derived.Lib.AppendStr
import Derived.ArgAppend
import Derived.Laws.IdiomCopy
import Derived.OrdersHeld
import Derived.Laws.BitsLemmas
import Derived.RowKit
import Derived.Test.YtgnjbiofjjcioaaWWords
import Derived.Test.YtgnjbiofjjcioaaWLast
import Derived.Test.YtgnjbiofjjcioaaWTab
import Derived.Test.YtgnjbiofjjcioaaWFour
import Derived.Test.YtgnjbiofjjcioaaWQPut
import Derived.Test.YtgnjbiofjjcioaaWApart
import Derived.Test.YtgnjbiofjjcioaaWArr
import Derived.Test.YtgnjbiofjjcioaaWZeros
import Derived.Test.YtgnjbiofjjcioaaWFoot
import Derived.Test.YtgnjbiofjjcioaaWKept
import Derived.Test.YtgnjbiofjjcioaaWShare
import Derived.Test.YtgnjbiofjjcioaaWN
import Derived.Test.YtgnjbiofjjcioaaWFootNe
import Derived.Test.YtgnjbiofjjcioaaWAt
import Derived.Test.YtgnjbiofjjcioaaWEqStruct
import Derived.Test.YtgnjbiofjjcioaaWRepsOne
import Derived.Test.YtgnjbiofjjcioaaWInv
import Derived.Test.YtgnjbiofjjcioaaWInvWords
import Derived.Test.YtgnjbiofjjcioaaWGuard
import Derived.Test.YtgnjbiofjjcioaaWNEv
import Derived.Test.YtgnjbiofjjcioaaWMore
import Derived.Test.YtgnjbiofjjcioaaXRows
import Derived.Deep.RegionLaw
namespace Go.Proofs.Ytgnjbiofjjcioaa.XDeleteStr
open Go.RowKit Go.Proofs.YtgnjbiofjjcioaaW.PrintWords Go.Proofs.YtgnjbiofjjcioaaW.PrintLast Go.Proofs.YtgnjbiofjjcioaaW.PrintMore Go.Proofs.Ytgnjbiofjjcioaa.XRows
set_option linter.unusedVariables false
set_option linter.unusedSimpArgs false
theorem infoS : (Try.prog.info? 9).map (·.size) = some (Kd.string).sz := by kernel_rfl
theorem zeroE (w : World) : (zeroValue 9).run Try.prog w = .ok (.string ⟨#[]⟩) w := by kernel_rfl
theorem zeros : (Builtin.zeroCells ((.string ⟨#[]⟩) : Value).cells 1).toList.length = 1 ∧ ∀ u ∈ (Builtin.zeroCells ((.string ⟨#[]⟩) : Value).cells 1).toList, u.oneCell' = true := by decide +kernel
def slices_Delete.f (l0 : List ByteArray) (a1 a2 : Int) : Option (List ByteArray) := if 0 ≤ a1 ∧ a1 < l0.length ∧ a2 = a1 + 1 then some (l0.eraseIdx a1.toNat) else none
set_option maxHeartbeats 8000000 in
set_option maxRecDepth 100000 in
theorem slices_Delete.calls (P0_ : Nat → Prop) (u9000_ : Value) (l0 : List ByteArray) (a1 : Int) (a2 : Int) (r : List ByteArray) (w0 w : World) (hB : Below w0.heap.size w0 w) (ho0 : Kd.R Kd.string 9 w w0.heap.size P0_ u9000_ l0) (h : slices_Delete.f l0 a1 a2 = some r) :
    Calls Try.prog 25 #[u9000_, .int .i64 a1, .int .i64 a2] w fun e w' => ∃ v0_ : Value, e = .returned (v0_) ∧ Kd.R Kd.string 9 w' w0.heap.size (fun k_ => (P0_ k_ ∨ w.heap.size ≤ k_)) v0_ r ∧ Below w0.heap.size w0 w' ∧ Kept w w' (fun k_ => P0_ k_) := by
  unfold slices_Delete.f at h
  by_cases c : 0 ≤ a1 ∧ a1 < l0.length ∧ a2 = a1 + 1
  · rw [if_pos c] at h
    obtain rfl := Option.some.inj h
    obtain ⟨h0, h1, rfl⟩ := c
    clear h
    obtain ⟨i, rfl⟩ := Int.eq_ofNat_of_zero_le h0
    obtain ⟨g, c, cur, rfl, hnc, hc9, hh, hcs, hok, hbg⟩ := R_shape ho0 (by omega)
    obtain ⟨n, hn⟩ : ∃ n, n = l0.length := ⟨_, rfl⟩
    rw [← hn] at h1 hnc ho0
    rw [← hn]
    rw [Int.toNat_natCast]
    have HN := Aside0.mk hn
    have HO := Aside0.mk ho0
    have HB := Aside0.mk hB
    have HW := Aside0.mk hB.size
    have HG := Aside0.mk hok
    have hin : i < n := by omega
    have hic : i ≤ c := by omega
    have hp0 : (0 : Int) ≤ (i : Int) + 1 := by omega
    have hp1 : (i : Int) + 1 ≤ (n : Int) := by omega
    have hp2 : ((i : Int) + 1).toNat = i + 1 := by omega
    have hne : ((i : Int) == (i : Int) + 1) = false := beq_eq_false_iff_ne.mpr (by omega)
    clear hn ho0 hB hok h0 h1 hh hcs hbg cur
    go_enter Try.func25, Try.ntmps25
    go_wp2_with fail
    go_region_law (refine Kd.R_delete_step Kd.string (w0 := w0) w0.heap.size rfl (.tmp 22) (.tmp 25) 22 9 rfl Try.underlying22 infoS (g := g) (n := n) (c := c) (k := i) (m := n - (i + 1)) (c2 := c - (i + 1)) (xs := l0) (ok := P0_) (by simp [Act.eval, Act.put]) (by simp [Act.eval, Act.put]; rfl) (by simp [Addr.add, show (Kd.string).sz = 1 from rfl]) rfl (by (with_reducible repeat (first | apply Kd.R_alloc | apply Kd.R_drewN | apply Kd.R_drew)); exact HO.out) hin (by repeat (first | (with_reducible first | exact HB.out | apply below_alloc | apply pw_below_drewN | apply below_drew1) | exact HB.out)) HW.out ?_; intro w1 ho hb hg; have HO1 := Aside0.mk ho; have HB1 := Aside0.mk hb; have HGR := Aside0.mk hg; clear ho hb hg)
    obtain ⟨w2, hclr, ho2, hg2⟩ := clear_end HO1.out (P := Try.prog) 22 0 (.string ⟨#[]⟩) Try.underlying22 zeroE zeros (by omega) (c - (n - 1)) (n - 1) (n - (n - 1)) (by first | rfl | exact (Nat.mul_one _).symm) (by omega)
    have HO2 := Aside0.mk ho2
    have HG2 := Aside0.mk hg2
    clear ho2 hg2
    go_wp2
    all_goals
      go_ret
      refine ⟨_, rfl, (by first | exact Kd.R_mono HO2.out (fun k hk => .inl hk) | (have hci : c = i + 1 := (by assumption); subst hci; exact Kd.R_mono HO2.out (fun k hk => .inl hk))), HB1.out.grown HG2.out (Nat.le_trans HW.out HGR.out.size) (fun k hk => by injection hk with hk; subst hk; exact Kd.R_base HO1.out _ rfl), ?_⟩
      refine ⟨Nat.le_trans HGR.out.size HG2.out.size, fun k hk hn => ?_⟩
      have hkg : some k ≠ some g := fun e => hn (by injection e with e; rw [e]; exact HG.out)
      have h1 := HGR.out.block k hk hkg
      have h2 := HG2.out.block k (Nat.lt_of_lt_of_le hk HGR.out.size) hkg
      exact h2.trans h1
  · rw [if_neg c] at h
    exact absurd h (by simp)
end Go.Proofs.Ytgnjbiofjjcioaa.XDeleteStr
