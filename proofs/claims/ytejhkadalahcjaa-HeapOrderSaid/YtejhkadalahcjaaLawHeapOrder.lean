-- Written by a program of this session (wip/tools/xprint.py), which drives the kit's print.
import Derived.Test.YtejhkadalahcjaaRows
import Derived.Test.YtejhkadalahcjaaXHandHeapOrder
import Derived.Test.YtejhkadalahcjaaXOpen
import Derived.WalkKit
import Derived.ProofKit
import Derived.OpenShut
import Derived.ShutString
import Derived.ChangeOld
import Derived.Below
import Derived.SizedLaws
import Derived.Test.YtejhkadalahcjaaWSized
namespace Go.Proofs.Ytejhkadalahcjaa.heapOrder
open Go.ChangeShapes Go.WideShapes Go.ChangeAt Go.RowKit Go.Proofs.YtejhkadalahcjaaW.PrintWords Go.Proofs.YtejhkadalahcjaaW.PrintLast Go.Proofs.YtejhkadalahcjaaW.PrintMore Go.Proofs.Ytejhkadalahcjaa.XOpen Go.Proofs.Ytejhkadalahcjaa.PA
open Go.ChangeMaps (open_string shut_string)
set_option linter.unusedVariables false
set_option linter.unusedSimpArgs false
theorem own : ownKnob Try.prog.godebug = none := by kernel_rfl
theorem laidOut : laidOutB Try.prog = true := by kernel_rfl
theorem opens30 : Opens Try.prog 30 k30 Ok30 := Opens.iso (Opens.array 1 Try.underlying30 (by kernel_rfl) (by kernel_rfl) (OpensL.cons (Opens.int Try.underlying3) (OpensL.cons (Opens.int Try.underlying3) (OpensL.one (Opens.int Try.underlying3))))) (fun x : S30 => (x.f0, x.f1, x.f2)) (fun a => (⟨a.1, a.2.1, a.2.2⟩ : S30)) (fun _ => rfl)
theorem opens55 : Opens Try.prog 55 k55 Ok55 := Opens.iso (Opens.array 3 Try.underlying55 (by kernel_rfl) (by kernel_rfl) (OpensL.cons opens30 (OpensL.cons opens30 (OpensL.one opens30)))) (fun x : S55 => (x.f0, x.f1, x.f2)) (fun a => (⟨a.1, a.2.1, a.2.2⟩ : S55)) (fun _ => rfl)
set_option maxRecDepth 100000 in
theorem lifted (os : Os) (started : os.Started) (H : Type) (enc : TypeId × Value → H) :
    ReturnsInHanded {} Try.checked os 6 .any (Rows.heapOrderSpec.pre6 enc Try.prog Try.f6 Rows.heapOrderRow.domain false) (Rows.heapOrderSpec.post enc Try.prog Try.f6 false true false false) := by
  refine returnsInHanded_of_change_sized (C := Try.checked) own started (by kernel_rfl) Try.func6
    (ChangeSpec.witness6 (enc := enc) (C := Try.checked) false ⟨#[], #[.agg #[.int .i64 0, .int .i64 0, .int .i64 0], .agg #[.int .i64 0, .int .i64 0, .int .i64 0, .int .i64 0, .int .i64 0, .int .i64 0, .int .i64 0, .int .i64 0, .int .i64 0]], []⟩ 8 (by kernel_rfl) (by kernel_rfl) (by kernel_rfl) (by kernel_rfl)) ?_
  intro W base args ds gs before hval0 hW hcnd hsz0 _
  have hsz : (DataW.weightsEach Try.prog (Try.f6.params.toList ++ Rows.heapOrderSpec.plain.varTypes Try.prog) (ds ++ gs)).all (· ≤ reachBytes) = true := hsz0
  have hval : ∀ (j : Nat) t v, Try.f6.params[j]? = some t → args[j]? = some v → Value.okWide Try.prog W .any base t v := hval0
  have hW' := hW
  obtain ⟨p, q, hA0, hV, rfl, hfz, hnd⟩ := hW
  have hA : DataW.TrodAll enc Try.prog W 0 (fun _ => true) true Try.f6.params.toList args.toList ds p := hA0
  rw [Try.params6] at hA hval hsz
  obtain ⟨v0, vs0, d0, ds0, p0, q0, hargs, rfl, rfl, h0, r0⟩ := trodAll_cons hA
  obtain ⟨v1, vs1, d1, ds1, p1, q1, rfl, rfl, rfl, h1, r1⟩ := trodAll_cons r0
  obtain ⟨rfl, rfl, rfl⟩ := trodAll_nil r1
  obtain rfl : args = #[v0, v1] := by cases args; simp_all
  obtain ⟨rfl, rfl⟩ := trodVars_none hV
  have k0 := h0
  have lt0 : ∀ x ∈ p0, x.block < W.heap.size := by obtain ⟨m, hm⟩ := k0; exact DataW.trod_lt m _ _ _ hm
  obtain ⟨cs0, rfl, hs0⟩ := okWide_agg Try.underlying30 (hval 0 30 v0 rfl rfl)
  obtain ⟨x0, g0, o0⟩ : ∃ x, k30.K W x cs0.toList ∧ Ok30 x := by
    obtain ⟨fuel, hf⟩ := h0
    exact opens30 enc W 0 _ true fuel _ _ hf
  obtain e0 := k30_open g0
  obtain rfl : cs0 = #[.int .i64 x0.f0, .int .i64 x0.f1, .int .i64 x0.f2] := Array.toList_inj.1 e0
  have k1 := h1
  have lt1 : ∀ x ∈ p1, x.block < W.heap.size := by obtain ⟨m, hm⟩ := k1; exact DataW.trod_lt m _ _ _ hm
  obtain ⟨cs1, rfl, hs1⟩ := okWide_agg Try.underlying55 (hval 1 55 v1 rfl rfl)
  obtain ⟨x1, g1, o1⟩ : ∃ x, k55.K W x cs1.toList ∧ Ok55 x := by
    obtain ⟨fuel, hf⟩ := h1
    exact opens55 enc W 0 _ true fuel _ _ hf
  obtain e1 := k55_open g1
  obtain rfl : cs1 = #[.int .i64 x1.f0.f0, .int .i64 x1.f0.f1, .int .i64 x1.f0.f2, .int .i64 x1.f1.f0, .int .i64 x1.f1.f1, .int .i64 x1.f1.f2, .int .i64 x1.f2.f0, .int .i64 x1.f2.f1, .int .i64 x1.f2.f2] := Array.toList_inj.1 e1
  clear hA0 hval0 hsz0 hsz
  refine (Go.Proofs.Ytejhkadalahcjaa.XHand.heapOrder_walk (x0.f0) (x0.f1) (x0.f2) (x1.f0.f0) (x1.f0.f1) (x1.f0.f2) (x1.f1.f0) (x1.f1.f1) (x1.f1.f2) (x1.f2.f0) (x1.f2.f1) (x1.f2.f2) W  o0.1 o0.2.1 o0.2.2 o1.1.1 o1.1.2.1 o1.1.2.2 o1.2.1.1 o1.2.1.2.1 o1.2.1.2.2 o1.2.2.1 o1.2.2.2.1 o1.2.2.2.2).mono fun e W' ⟨he, bel⟩ => ?_
  subst he
  exact ⟨_, rfl, _, _, _, [], _, [], hW', trodAll_mk1 (shut_bool Try.underlying4 _), (trodAll_cons_mk (Below.trod laidOut (by kernel_rfl) (of_decide_eq_true (by kernel_rfl)) k0 bel lt0) (trodAll_cons_mk (Below.trod laidOut (by kernel_rfl) (of_decide_eq_true (by kernel_rfl)) k1 bel lt1) trodAll_mk0)), rfl, bel.frame _, fun h => by cases h⟩
theorem over : Rows.heapOrderRow.holds Try.pinned (OpenSpec.ofChange Rows.heapOrderSpec) :=
  OpenClaim.holds_of_wide 6 Try.f6 rfl rfl rfl rfl rfl rfl rfl ⟨rfl, rfl, rfl, rfl, rfl⟩ rfl rfl rfl rfl rfl (by kernel_rfl) Try.func6 (by kernel_rfl)
    (of_decide_eq_true (by kernel_rfl)) (by unfold Func.isWrapper; first | (rw [if_pos (by decide +kernel)]; kernel_rfl) | (rw [if_neg (by decide +kernel)]; exact ⟨rfl, rfl⟩))
    (fun os started H enc _ => lifted os started H enc)
theorem proved : Rows.HeapOrderSaid := over
#print axioms proved
end Go.Proofs.Ytejhkadalahcjaa.heapOrder
namespace Go.Proofs.Ytejhkadalahcjaa
/-- The row, under a short name, for the claim. -/
theorem heapOrder_holds : Rows.HeapOrderSaid := heapOrder.proved
end Go.Proofs.Ytejhkadalahcjaa
