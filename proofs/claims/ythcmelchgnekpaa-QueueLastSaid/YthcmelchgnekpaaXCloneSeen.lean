/- slices.Clone of []rollcall/api.Seen: what it answers is a row of its own with the same elements; told of rows below the limit of an append. -/
import Derived.Test.YthcmelchgnekpaaProg
import Derived.Below
import Derived.Deep.Draws
import Derived.Deep.AppendLies
import Derived.Maps.AppendAt
import Derived.OwnWalk
import Derived.Laws.BytesArg
import Derived.Laws.MakeOwn
import Derived.Laws.OwnMore
import Derived.Deep.OwnRows
import Derived.Tactics
import Derived.Lib.ConvBytes
import Derived.Laws.Slices
import Derived.WalkKit
import Derived.KernelRfl
import Derived.RowKit3
import Derived.Deep.LoopGhost
import Derived.Deep.QuietTactic
import Derived.BigQuiet
import Derived.WideLaws
import Derived.Deep.DeepCutAuto
import Derived.Deep.CutBlock
import Derived.Deep.RegionHeld3
import Derived.Laws.Rows
import Derived.Lib.AppendStr
import Derived.ArgAppend
import Derived.Laws.IdiomCopy
import Derived.OrdersHeld
import Derived.Laws.BitsLemmas
import Derived.RowKit
import Derived.Test.YthcmelchgnekpaaWWords
import Derived.Test.YthcmelchgnekpaaWLast
import Derived.Test.YthcmelchgnekpaaWTab
import Derived.Test.YthcmelchgnekpaaWFour
import Derived.Test.YthcmelchgnekpaaWQPut
import Derived.Test.YthcmelchgnekpaaWApart
import Derived.Test.YthcmelchgnekpaaWArr
import Derived.Test.YthcmelchgnekpaaWZeros
import Derived.Test.YthcmelchgnekpaaWFoot
import Derived.Test.YthcmelchgnekpaaWKept
import Derived.Test.YthcmelchgnekpaaWShare
import Derived.Test.YthcmelchgnekpaaWN
import Derived.Test.YthcmelchgnekpaaWFootNe
import Derived.Test.YthcmelchgnekpaaWAt
import Derived.Test.YthcmelchgnekpaaWEqStruct
import Derived.Test.YthcmelchgnekpaaWRepsOne
import Derived.Test.YthcmelchgnekpaaWInv
import Derived.Test.YthcmelchgnekpaaWInvWords
import Derived.Test.YthcmelchgnekpaaWGuard
import Derived.Test.YthcmelchgnekpaaWNEv
import Derived.Test.YthcmelchgnekpaaWMore
import Derived.Test.YthcmelchgnekpaaXKinds
import Derived.WalkSpells
namespace Go.Proofs.Ythcmelchgnekpaa.XCloneSeen
open Go.RowKit Go.Proofs.YthcmelchgnekpaaW.PrintWords Go.Proofs.YthcmelchgnekpaaW.PrintLast Go.Proofs.YthcmelchgnekpaaW.PrintMore Go.Proofs.Ythcmelchgnekpaa.PA
set_option linter.unusedVariables false
set_option linter.unusedSimpArgs false
theorem infoE : (Try.prog.info? 52).map (fun i => (i.zero, i.size, i.bytes)) = some (some (.agg #[(.string ⟨#[]⟩), (.int .i64 0), (.int .i64 0), (.int .i64 0), (.string ⟨#[]⟩)]), 5, 56) := by kernel_rfl
def slices_Clone.f (l0 : List S52) : Option (List S52) := if l0.length < 2513169434916 then some l0 else none
set_option maxHeartbeats 8000000 in
set_option maxRecDepth 100000 in
theorem slices_Clone.calls (A0 : Option Addr) (c0 : Nat) (l0 : List S52) (r : List S52) (w : World) (hr0 : Kd.C k52 w A0 l0.length l0) (hc0 : l0.length ≤ c0) (h : slices_Clone.f l0 = some r) :
    Calls Try.prog 43 #[.slice A0 l0.length c0] w fun e w' => ∃ v0_ : Value, e = .returned (v0_) ∧ Kd.R k52 52 w' w.heap.size (fun _ => True) v0_ r ∧ Below w.heap.size w w' := by
  have HR0 := Aside0.mk hr0
  have HC0 := Aside0.mk hc0
  have HB := Aside0.mk (Below.refl w.heap.size w)
  unfold slices_Clone.f at h
  by_cases c : l0.length < 2513169434916
  · rw [if_pos c] at h
    obtain rfl := Option.some.inj h
    have LM := Aside0.mk c
    clear h c
    cases A0 with
    | none =>
      have hn : l0 = [] := by
        apply Classical.byContradiction
        intro hne
        obtain ⟨ad, e, _⟩ := hr0.2.2 (List.length_pos_iff.2 hne)
        cases e
      subst hn
      clear hr0 hc0 HR0 HC0 LM
      have hnil := fun (w : World) => Lib.run_eql_slice_nil (P := Try.prog) w 25 52 none 0 c0 0 0 Try.underlying25
      go_enter Try.func43, Try.ntmps43
      go_wp2
      go_ret
      exact ⟨_, rfl, Kd.R_nil _ _ _ _ _, HB.out⟩
    | some ad =>
      clear hr0 hc0
      go_enter Try.func43, Try.ntmps43
      have hnil := fun (w : World) => Lib.run_eql_slice_nil (P := Try.prog) w 25 52 (some ad) l0.length c0 0 0 Try.underlying25
      go_wp2_with (first | ((with_reducible refine gate_dst (N := 5) rfl ?_); refine Kd.R_lit k52 _ 52 ?hg (N := 5) ?hd (xs := ([] : List S52)) (inner := []) (ok := fun _ => True) (okp := fun _ => True) ?hr ?hp (fun _ hk => hk) trivial (Below.refl _ _) (Nat.le_refl _) (by simp) ?_; (case hd => rfl); (case hg => rfl); (case hr => first | (go_simp; done) | (go_simp; rfl)); (case hp => exact (Reps.none _ _)); intro v_HOa w_HOa ho3 hb hg_ hnew_; clear hg_ hnew_; have n0_ := Aside0.mk (Kd.R_lower ho3 (below_size (by repeat (first | (with_reducible first | exact HB.out | apply below_alloc | apply pw_below_drewN | apply below_drew1) | exact HB.out)))); have n1_ := Aside0.mk (below_step (by repeat (first | (with_reducible first | exact HB.out | apply below_alloc | apply pw_below_drewN | apply below_drew1) | exact HB.out)) hb); clear HB; have HOa := n0_; have HB := n1_; clear n0_ n1_; clear hb ho3) | ((with_reducible refine gate_builtin (b := .append) (xs := #[.tmp 5, .tmp 6]) rfl ?_); at_builtin; refine Kd.R_append_rows k52 (w0 := w) w.heap.size rfl (.tmp 5) (.tmp 6) 25 52 (.agg #[(.string ⟨#[]⟩), (.int .i64 0), (.int .i64 0), (.int .i64 0), (.string ⟨#[]⟩)]) 56 rfl Try.underlying25 infoE rfl (by decide) (by omega) v_HOa ([] : List S52) l0 _ _ _ (fun _ => True) (fun _ => False) rfl rfl ?aO ?aR (fun _ _ h => h) (fun _ h => h.elim) ?aF ?aB ?aS ?aL ?_; (case aR => repeat (first | exact (Kd.C_below HR0.out HB.out) | (with_reducible refine Kd.C_alloc ?_ _) | (with_reducible refine Kd.C_drewN ?_ _) | (with_reducible refine Kd.C_drew ?_))); (case aB => exact (by repeat (first | (with_reducible first | exact HB.out | apply below_alloc | apply pw_below_drewN | apply below_drew1) | exact HB.out))); (case aF => exact (fun _ _ => trivial)); (case aO => exact (by (with_reducible repeat (first | apply Kd.R_alloc | apply Kd.R_drewN | apply Kd.R_drew)); exact HOa.out)); (case aS => exact (below_size (by repeat (first | (with_reducible first | exact HB.out | apply below_alloc | apply pw_below_drewN | apply below_drew1) | exact HB.out)))); (case aL => have := LM.out; simp only [List.length_nil, Nat.zero_add]; omega); intro v_HOb w_HOb ho hb hg hat; have n0_ := Aside0.mk (hb); have n1_ := Aside0.mk (ho); clear HB; clear HOa; have HB := n0_; have HOb := n1_; clear n0_ n1_; clear ho hb hg hat))
      go_ret
      exact ⟨_, rfl, by (with_reducible repeat (first | apply Kd.R_alloc | apply Kd.R_drewN | apply Kd.R_drew)); exact HOb.out, by repeat (first | (with_reducible first | exact HB.out | apply below_alloc | apply pw_below_drewN | apply below_drew1) | exact HB.out)⟩
  · rw [if_neg c] at h
    exact absurd h (by simp)
end Go.Proofs.Ythcmelchgnekpaa.XCloneSeen
