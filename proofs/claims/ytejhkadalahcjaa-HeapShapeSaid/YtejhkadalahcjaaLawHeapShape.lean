-- Written by a program of this session (wip/tools/xprint.py), which drives the kit's print.
import Derived.Test.YtejhkadalahcjaaRows
import Derived.Test.YtejhkadalahcjaaXHandHeapShape
import Derived.Test.YtejhkadalahcjaaXOpen
import Derived.WalkKit
import Derived.ProofKit
import Derived.OpenShut
import Derived.ShutString
import Derived.ChangeOld
import Derived.Below
import Derived.SizedLaws
import Derived.Test.YtejhkadalahcjaaWSized
namespace Go.Proofs.Ytejhkadalahcjaa.heapShape
open Go.ChangeShapes Go.WideShapes Go.ChangeAt Go.RowKit Go.Proofs.YtejhkadalahcjaaW.PrintWords Go.Proofs.YtejhkadalahcjaaW.PrintLast Go.Proofs.YtejhkadalahcjaaW.PrintMore Go.Proofs.Ytejhkadalahcjaa.XOpen Go.Proofs.Ytejhkadalahcjaa.PA
open Go.ChangeMaps (open_string shut_string)
set_option linter.unusedVariables false
set_option linter.unusedSimpArgs false
theorem own : ownKnob Try.prog.godebug = none := by kernel_rfl
theorem laidOut : laidOutB Try.prog = true := by kernel_rfl
theorem opens30 : Opens Try.prog 30 k30 Ok30 := Opens.iso (Opens.array 1 Try.underlying30 (by kernel_rfl) (by kernel_rfl) (OpensL.cons (Opens.int Try.underlying3) (OpensL.cons (Opens.int Try.underlying3) (OpensL.one (Opens.int Try.underlying3))))) (fun x : S30 => (x.f0, x.f1, x.f2)) (fun a => (⟨a.1, a.2.1, a.2.2⟩ : S30)) (fun _ => rfl)
theorem opens43 : Opens Try.prog 43 k43 Ok43 := Opens.iso (Opens.struct [3, 3, 30] [1, 1, 3] Try.underlying43 (by kernel_rfl) (by kernel_rfl) (by kernel_rfl) (by kernel_rfl) (OpensL.cons (Opens.int Try.underlying3) (OpensL.cons (Opens.int Try.underlying3) (OpensL.one opens30)))) (fun x : S43 => (x.f0, x.f1, x.f2)) (fun a => (⟨a.1, a.2.1, a.2.2⟩ : S43)) (fun _ => rfl)
set_option maxRecDepth 100000 in
theorem lifted (os : Os) (started : os.Started) (H : Type) (enc : TypeId × Value → H) :
    ReturnsInHanded {} Try.checked os 4 .any (Rows.heapShapeSpec.pre6 enc Try.prog Try.f4 Rows.heapShapeRow.domain false) (Rows.heapShapeSpec.post enc Try.prog Try.f4 false true false false) := by
  refine returnsInHanded_of_change_sized (C := Try.checked) own started (by kernel_rfl) Try.func4
    (ChangeSpec.witness6 (enc := enc) (C := Try.checked) false ⟨#[], #[.slice none 0 0], []⟩ 8 (by kernel_rfl) (by kernel_rfl) (by kernel_rfl) (by kernel_rfl)) ?_
  intro W base args ds gs before hval0 hW hcnd hsz0 _
  have hsz : (DataW.weightsEach Try.prog (Try.f4.params.toList ++ Rows.heapShapeSpec.plain.varTypes Try.prog) (ds ++ gs)).all (· ≤ reachBytes) = true := hsz0
  have hval : ∀ (j : Nat) t v, Try.f4.params[j]? = some t → args[j]? = some v → Value.okWide Try.prog W .any base t v := hval0
  have hW' := hW
  obtain ⟨p, q, hA0, hV, rfl, hfz, hnd⟩ := hW
  have hA : DataW.TrodAll enc Try.prog W 0 (fun _ => true) true Try.f4.params.toList args.toList ds p := hA0
  rw [Try.params4] at hA hval hsz
  obtain ⟨v0, vs0, d0, ds0, p0, q0, hargs, rfl, rfl, h0, r0⟩ := trodAll_cons hA
  obtain ⟨rfl, rfl, rfl⟩ := trodAll_nil r0
  obtain rfl : args = #[v0] := by cases args; simp_all
  obtain ⟨rfl, rfl⟩ := trodVars_none hV
  have k0 := h0
  have lt0 : ∀ x ∈ p0, x.block < W.heap.size := by obtain ⟨m, hm⟩ := k0; exact DataW.trod_lt m _ _ _ hm
  obtain ⟨a0, len0, cap0, rfl⟩ := okWide_slice Try.underlying22 (hval 0 22 v0 rfl rfl)
  obtain ⟨x0, g0, o0⟩ : ∃ x, (Kd.slice 43 k43).K W x [.slice a0 len0 cap0] ∧ (x.length ≤ maxLen ∧ ∀ y_ ∈ x, Ok43 y_) := by
    obtain ⟨fuel, hf⟩ := h0
    exact (Opens.slice Try.underlying22 (by kernel_rfl) z43 opens43) enc W 0 _ true fuel _ _ hf
  obtain ⟨A0, c0, e0, hc0, hr0⟩ := g0
  obtain ⟨rfl, rfl, rfl⟩ : a0 = A0 ∧ len0 = x0.length ∧ cap0 = c0 := by simpa using e0
  clear hA0 hval0 hsz0 hsz
  refine (Go.Proofs.Ytejhkadalahcjaa.XHand.heapShape_walk _ _ x0 W hr0 hc0 o0.1 o0.2).mono fun e W' ⟨he, bel⟩ => ?_
  subst he
  exact ⟨_, rfl, _, _, _, [], _, [], hW', trodAll_mk1 (shut_bool Try.underlying4 _), (trodAll_cons_mk (Below.trod laidOut (by kernel_rfl) (of_decide_eq_true (by kernel_rfl)) k0 bel lt0) trodAll_mk0), rfl, bel.frame _, fun h => by cases h⟩
theorem over : Rows.heapShapeRow.holds Try.pinned (OpenSpec.ofChange Rows.heapShapeSpec) :=
  OpenClaim.holds_of_wide 4 Try.f4 rfl rfl rfl rfl rfl rfl rfl ⟨rfl, rfl, rfl, rfl, rfl⟩ rfl rfl rfl rfl rfl (by kernel_rfl) Try.func4 (by kernel_rfl)
    (of_decide_eq_true (by kernel_rfl)) (by unfold Func.isWrapper; first | (rw [if_pos (by decide +kernel)]; kernel_rfl) | (rw [if_neg (by decide +kernel)]; exact ⟨rfl, rfl⟩))
    (fun os started H enc _ => lifted os started H enc)
theorem proved : Rows.HeapShapeSaid := over
#print axioms proved
end Go.Proofs.Ytejhkadalahcjaa.heapShape
namespace Go.Proofs.Ytejhkadalahcjaa
/-- The row, under a short name, for the claim. -/
theorem heapShape_holds : Rows.HeapShapeSaid := heapShape.proved
end Go.Proofs.Ytejhkadalahcjaa
