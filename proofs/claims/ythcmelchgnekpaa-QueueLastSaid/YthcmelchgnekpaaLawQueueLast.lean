-- Written by a program of this session (wip/tools/xprint.py), which drives the kit's print.
import Derived.Test.YthcmelchgnekpaaRows
import Derived.Test.YthcmelchgnekpaaXHandQueueLast
import Derived.Test.YthcmelchgnekpaaXOpen
import Derived.WalkKit
import Derived.ProofKit
import Derived.OpenShut
import Derived.ShutString
import Derived.ChangeOld
import Derived.Below
import Derived.SizedLaws
import Derived.Test.YthcmelchgnekpaaWSized
namespace Go.Proofs.Ythcmelchgnekpaa.queueLast
open Go.ChangeShapes Go.WideShapes Go.ChangeAt Go.RowKit Go.Proofs.YthcmelchgnekpaaW.PrintWords Go.Proofs.YthcmelchgnekpaaW.PrintLast Go.Proofs.YthcmelchgnekpaaW.PrintMore Go.Proofs.Ythcmelchgnekpaa.XOpen Go.Proofs.Ythcmelchgnekpaa.PA
open Go.ChangeMaps (open_string shut_string)
set_option linter.unusedVariables false
set_option linter.unusedSimpArgs false
theorem own : ownKnob Try.prog.godebug = none := by kernel_rfl
theorem laidOut : laidOutB Try.prog = true := by kernel_rfl
theorem opens31 : Opens Try.prog 31 k31 Ok31 := Opens.iso (Opens.struct [3, 3, 3, 9] [1, 1, 1, 1] Try.underlying31 (by kernel_rfl) (by kernel_rfl) (by kernel_rfl) (by kernel_rfl) (OpensL.cons (Opens.int Try.underlying3) (OpensL.cons (Opens.int Try.underlying3) (OpensL.cons (Opens.int Try.underlying3) (OpensL.one (Opens.string Try.underlying9)))))) (fun x : S31 => (x.f0, x.f1, x.f2, x.f3)) (fun a => (⟨a.1, a.2.1, a.2.2.1, a.2.2.2⟩ : S31)) (fun _ => rfl)
theorem opens52 : Opens Try.prog 52 k52 Ok52 := Opens.iso (Opens.struct [9, 31] [1, 4] Try.underlying52 (by kernel_rfl) (by kernel_rfl) (by kernel_rfl) (by kernel_rfl) (OpensL.cons (Opens.string Try.underlying9) (OpensL.one opens31))) (fun x : S52 => (x.f0, x.f1)) (fun a => (⟨a.1, a.2⟩ : S52)) (fun _ => rfl)
theorem opens33 : Opens Try.prog 33 k33 Ok33 := Opens.iso (Opens.struct [9, 4, 31] [1, 1, 4] Try.underlying33 (by kernel_rfl) (by kernel_rfl) (by kernel_rfl) (by kernel_rfl) (OpensL.cons (Opens.string Try.underlying9) (OpensL.cons (Opens.bool Try.underlying4) (OpensL.one opens31)))) (fun x : S33 => (x.f0, x.f1, x.f2)) (fun a => (⟨a.1, a.2.1, a.2.2⟩ : S33)) (fun _ => rfl)
set_option maxRecDepth 100000 in
theorem lifted (os : Os) (started : os.Started) (H : Type) (enc : TypeId × Value → H) :
    ReturnsInHanded {} Try.checked os 6 .any (Rows.queueLastSpec.pre6 enc Try.prog Try.f6 Rows.queueLastRow.domain false) (Rows.queueLastSpec.post enc Try.prog Try.f6 false true false false) := by
  refine returnsInHanded_of_change_sized (C := Try.checked) own started (by kernel_rfl) Try.func6
    (ChangeSpec.witness6 (enc := enc) (C := Try.checked) false ⟨#[], #[.slice none 0 0, .slice none 0 0, .slice none 0 0], []⟩ 8 (by kernel_rfl) (by kernel_rfl) (by kernel_rfl) (by kernel_rfl)) ?_
  intro W base args ds gs before hval0 hW hcnd hsz0 _
  have hsz : (DataW.weightsEach Try.prog (Try.f6.params.toList ++ Rows.queueLastSpec.plain.varTypes Try.prog) (ds ++ gs)).all (· ≤ reachBytes) = true := hsz0
  have hval : ∀ (j : Nat) t v, Try.f6.params[j]? = some t → args[j]? = some v → Value.okWide Try.prog W .any base t v := hval0
  have hW' := hW
  obtain ⟨p, q, hA0, hV, rfl, hfz, hnd⟩ := hW
  have hA : DataW.TrodAll enc Try.prog W 0 (fun _ => true) true Try.f6.params.toList args.toList ds p := hA0
  rw [Try.params6] at hA hval hsz
  obtain ⟨v0, vs0, d0, ds0, p0, q0, hargs, rfl, rfl, h0, r0⟩ := trodAll_cons hA
  obtain ⟨v1, vs1, d1, ds1, p1, q1, rfl, rfl, rfl, h1, r1⟩ := trodAll_cons r0
  obtain ⟨v2, vs2, d2, ds2, p2, q2, rfl, rfl, rfl, h2, r2⟩ := trodAll_cons r1
  obtain ⟨rfl, rfl, rfl⟩ := trodAll_nil r2
  obtain rfl : args = #[v0, v1, v2] := by cases args; simp_all
  obtain ⟨rfl, rfl⟩ := trodVars_none hV
  have k0 := h0
  have lt0 : ∀ x ∈ p0, x.block < W.heap.size := by obtain ⟨m, hm⟩ := k0; exact DataW.trod_lt m _ _ _ hm
  obtain ⟨a0, len0, cap0, rfl⟩ := okWide_slice Try.underlying25 (hval 0 25 v0 rfl rfl)
  obtain ⟨x0, g0, o0⟩ : ∃ x, (Kd.slice 52 k52).K W x [.slice a0 len0 cap0] ∧ (x.length ≤ maxLen ∧ ∀ y_ ∈ x, Ok52 y_) := by
    obtain ⟨fuel, hf⟩ := h0
    exact (Opens.slice Try.underlying25 (by kernel_rfl) z52 opens52) enc W 0 _ true fuel _ _ hf
  obtain ⟨A0, c0, e0, hc0, hr0⟩ := g0
  obtain ⟨rfl, rfl, rfl⟩ : a0 = A0 ∧ len0 = x0.length ∧ cap0 = c0 := by simpa using e0
  have k1 := h1
  have lt1 : ∀ x ∈ p1, x.block < W.heap.size := by obtain ⟨m, hm⟩ := k1; exact DataW.trod_lt m _ _ _ hm
  obtain ⟨a1, len1, cap1, rfl⟩ := okWide_slice Try.underlying22 (hval 1 22 v1 rfl rfl)
  obtain ⟨x1, g1, o1⟩ : ∃ x, (Kd.slice 33 k33).K W x [.slice a1 len1 cap1] ∧ (x.length ≤ maxLen ∧ ∀ y_ ∈ x, Ok33 y_) := by
    obtain ⟨fuel, hf⟩ := h1
    exact (Opens.slice Try.underlying22 (by kernel_rfl) z33 opens33) enc W 0 _ true fuel _ _ hf
  obtain ⟨A1, c1, e1, hc1, hr1⟩ := g1
  obtain ⟨rfl, rfl, rfl⟩ : a1 = A1 ∧ len1 = x1.length ∧ cap1 = c1 := by simpa using e1
  have k2 := h2
  have lt2 : ∀ x ∈ p2, x.block < W.heap.size := by obtain ⟨m, hm⟩ := k2; exact DataW.trod_lt m _ _ _ hm
  obtain ⟨a2, len2, cap2, rfl⟩ := okWide_slice Try.underlying46 (hval 2 46 v2 rfl rfl)
  obtain ⟨x2, g2, o2⟩ : ∃ x, (Kd.slice 3 (Kd.int .i64)).K W x [.slice a2 len2 cap2] ∧ (x.length ≤ maxLen ∧ ∀ y_ ∈ x, (Lit.int .i64 y_).wf = true) := by
    obtain ⟨fuel, hf⟩ := h2
    exact (Opens.slice Try.underlying46 (by kernel_rfl) 0 (Opens.int Try.underlying3)) enc W 0 _ true fuel _ _ hf
  obtain ⟨A2, c2, e2, hc2, hr2⟩ := g2
  obtain ⟨rfl, rfl, rfl⟩ : a2 = A2 ∧ len2 = x2.length ∧ cap2 = c2 := by simpa using e2
  clear hA0 hval0 hsz0 hsz
  refine (Go.Proofs.Ythcmelchgnekpaa.XHand.queueLast_walk _ _ x0 _ _ x1 _ _ x2 W hr0 hc0 hr1 hc1 hr2 hc2 o0.1 o0.2 o1.1 o1.2 o2.1 o2.2).mono fun e W' ⟨he, bel⟩ => ?_
  subst he
  exact ⟨_, rfl, _, _, _, [], _, [], hW', trodAll_mk1 (shut_bool Try.underlying4 _), (trodAll_cons_mk (Below.trod laidOut (by kernel_rfl) (of_decide_eq_true (by kernel_rfl)) k0 bel lt0) (trodAll_cons_mk (Below.trod laidOut (by kernel_rfl) (of_decide_eq_true (by kernel_rfl)) k1 bel lt1) (trodAll_cons_mk (Below.trod laidOut (by kernel_rfl) (of_decide_eq_true (by kernel_rfl)) k2 bel lt2) trodAll_mk0))), rfl, bel.frame _, fun h => by cases h⟩
theorem over : Rows.queueLastRow.holds Try.pinned (OpenSpec.ofChange Rows.queueLastSpec) :=
  OpenClaim.holds_of_wide 6 Try.f6 rfl rfl rfl rfl rfl rfl rfl ⟨rfl, rfl, rfl, rfl, rfl⟩ rfl rfl rfl rfl rfl (by kernel_rfl) Try.func6 (by kernel_rfl)
    (of_decide_eq_true (by kernel_rfl)) (by unfold Func.isWrapper; first | (rw [if_pos (by decide +kernel)]; kernel_rfl) | (rw [if_neg (by decide +kernel)]; exact ⟨rfl, rfl⟩))
    (fun os started H enc _ => lifted os started H enc)
theorem proved : Rows.QueueLastSaid := over
#print axioms proved
end Go.Proofs.Ythcmelchgnekpaa.queueLast
namespace Go.Proofs.Ythcmelchgnekpaa
/-- The row, under a short name, for the claim. -/
theorem queueLast_holds : Rows.QueueLastSaid := queueLast.proved
end Go.Proofs.Ythcmelchgnekpaa
