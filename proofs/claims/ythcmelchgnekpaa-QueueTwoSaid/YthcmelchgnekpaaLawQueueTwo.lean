-- Written by a program of this session (wip/tools/xprint.py), which drives the kit's print.
import Derived.Test.YthcmelchgnekpaaRows
import Derived.Test.YthcmelchgnekpaaXHandQueueTwo
import Derived.Test.YthcmelchgnekpaaXOpen
import Derived.WalkKit
import Derived.ProofKit
import Derived.OpenShut
import Derived.ShutString
import Derived.ChangeOld
import Derived.Below
import Derived.SizedLaws
import Derived.Test.YthcmelchgnekpaaWSized
namespace Go.Proofs.Ythcmelchgnekpaa.queueTwo
open Go.ChangeShapes Go.WideShapes Go.ChangeAt Go.RowKit Go.Proofs.YthcmelchgnekpaaW.PrintWords Go.Proofs.YthcmelchgnekpaaW.PrintLast Go.Proofs.YthcmelchgnekpaaW.PrintMore Go.Proofs.Ythcmelchgnekpaa.XOpen Go.Proofs.Ythcmelchgnekpaa.PA
open Go.ChangeMaps (open_string shut_string)
set_option linter.unusedVariables false
set_option linter.unusedSimpArgs false
theorem own : ownKnob Try.prog.godebug = none := by kernel_rfl
theorem laidOut : laidOutB Try.prog = true := by kernel_rfl
theorem opens31 : Opens Try.prog 31 k31 Ok31 := Opens.iso (Opens.struct [3, 3, 3, 9] [1, 1, 1, 1] Try.underlying31 (by kernel_rfl) (by kernel_rfl) (by kernel_rfl) (by kernel_rfl) (OpensL.cons (Opens.int Try.underlying3) (OpensL.cons (Opens.int Try.underlying3) (OpensL.cons (Opens.int Try.underlying3) (OpensL.one (Opens.string Try.underlying9)))))) (fun x : S31 => (x.f0, x.f1, x.f2, x.f3)) (fun a => (⟨a.1, a.2.1, a.2.2.1, a.2.2.2⟩ : S31)) (fun _ => rfl)
theorem opens33 : Opens Try.prog 33 k33 Ok33 := Opens.iso (Opens.struct [9, 4, 31] [1, 1, 4] Try.underlying33 (by kernel_rfl) (by kernel_rfl) (by kernel_rfl) (by kernel_rfl) (OpensL.cons (Opens.string Try.underlying9) (OpensL.cons (Opens.bool Try.underlying4) (OpensL.one opens31)))) (fun x : S33 => (x.f0, x.f1, x.f2)) (fun a => (⟨a.1, a.2.1, a.2.2⟩ : S33)) (fun _ => rfl)
theorem opens24 : Opens Try.prog 24 k24 Ok24 := Opens.iso (Opens.struct [22, 4] [1, 1] Try.underlying24 (by kernel_rfl) (by kernel_rfl) (by kernel_rfl) (by kernel_rfl) (OpensL.cons (Opens.slice Try.underlying22 (by kernel_rfl) z33 opens33) (OpensL.one (Opens.bool Try.underlying4)))) (fun x : S24 => (x.f0, x.f1)) (fun a => (⟨a.1, a.2⟩ : S24)) (fun _ => rfl)
theorem opens52 : Opens Try.prog 52 k52 Ok52 := Opens.iso (Opens.struct [9, 31] [1, 4] Try.underlying52 (by kernel_rfl) (by kernel_rfl) (by kernel_rfl) (by kernel_rfl) (OpensL.cons (Opens.string Try.underlying9) (OpensL.one opens31))) (fun x : S52 => (x.f0, x.f1)) (fun a => (⟨a.1, a.2⟩ : S52)) (fun _ => rfl)
theorem opens49 : Opens Try.prog 49 k49 Ok49 := Opens.iso (Opens.array 6 Try.underlying49 (by kernel_rfl) (by kernel_rfl) (OpensL.cons opens33 (OpensL.one opens33))) (fun x : S49 => (x.f0, x.f1)) (fun a => (⟨a.1, a.2⟩ : S49)) (fun _ => rfl)
set_option maxRecDepth 100000 in
theorem lifted (os : Os) (started : os.Started) (H : Type) (enc : TypeId × Value → H) :
    ReturnsInHanded {} Try.checked os 7 .any (Rows.queueTwoSpec.pre6 enc Try.prog Try.f7 Rows.queueTwoRow.domain false) (Rows.queueTwoSpec.post enc Try.prog Try.f7 false true false false) := by
  refine returnsInHanded_of_change_sized (C := Try.checked) own started (by kernel_rfl) Try.func7
    (ChangeSpec.witness6 (enc := enc) (C := Try.checked) false ⟨#[], #[.agg #[.slice none 0 0, .bool false], .slice none 0 0, .agg #[.string ByteArray.empty, .bool false, .int .i64 0, .int .i64 0, .int .i64 0, .string ByteArray.empty, .string ByteArray.empty, .bool false, .int .i64 0, .int .i64 0, .int .i64 0, .string ByteArray.empty]], []⟩ 8 (by kernel_rfl) (by kernel_rfl) (by kernel_rfl) (by kernel_rfl)) ?_
  intro W base args ds gs before hval0 hW hcnd hsz0 _
  have hsz : (DataW.weightsEach Try.prog (Try.f7.params.toList ++ Rows.queueTwoSpec.plain.varTypes Try.prog) (ds ++ gs)).all (· ≤ reachBytes) = true := hsz0
  have hval : ∀ (j : Nat) t v, Try.f7.params[j]? = some t → args[j]? = some v → Value.okWide Try.prog W .any base t v := hval0
  have hW' := hW
  obtain ⟨p, q, hA0, hV, rfl, hfz, hnd⟩ := hW
  have hA : DataW.TrodAll enc Try.prog W 0 (fun _ => true) true Try.f7.params.toList args.toList ds p := hA0
  rw [Try.params7] at hA hval hsz
  obtain ⟨v0, vs0, d0, ds0, p0, q0, hargs, rfl, rfl, h0, r0⟩ := trodAll_cons hA
  obtain ⟨v1, vs1, d1, ds1, p1, q1, rfl, rfl, rfl, h1, r1⟩ := trodAll_cons r0
  obtain ⟨v2, vs2, d2, ds2, p2, q2, rfl, rfl, rfl, h2, r2⟩ := trodAll_cons r1
  obtain ⟨rfl, rfl, rfl⟩ := trodAll_nil r2
  obtain rfl : args = #[v0, v1, v2] := by cases args; simp_all
  obtain ⟨rfl, rfl⟩ := trodVars_none hV
  have k0 := h0
  have lt0 : ∀ x ∈ p0, x.block < W.heap.size := by obtain ⟨m, hm⟩ := k0; exact DataW.trod_lt m _ _ _ hm
  obtain ⟨cs0, rfl, hs0⟩ := okWide_struct Try.underlying24 (hval 0 24 v0 rfl rfl)
  obtain ⟨x0, g0, o0⟩ : ∃ x, k24.K W x cs0.toList ∧ Ok24 x := by
    obtain ⟨fuel, hf⟩ := h0
    exact opens24 enc W 0 _ true fuel _ _ hf
  obtain ⟨A0_0, c0_0, e0, hc0_0, hr0_0⟩ := k24_open g0
  obtain rfl : cs0 = #[.slice A0_0 (x0.f0).length c0_0, .bool x0.f1] := Array.toList_inj.1 e0
  have k1 := h1
  have lt1 : ∀ x ∈ p1, x.block < W.heap.size := by obtain ⟨m, hm⟩ := k1; exact DataW.trod_lt m _ _ _ hm
  obtain ⟨a1, len1, cap1, rfl⟩ := okWide_slice Try.underlying25 (hval 1 25 v1 rfl rfl)
  obtain ⟨x1, g1, o1⟩ : ∃ x, (Kd.slice 52 k52).K W x [.slice a1 len1 cap1] ∧ (x.length ≤ maxLen ∧ ∀ y_ ∈ x, Ok52 y_) := by
    obtain ⟨fuel, hf⟩ := h1
    exact (Opens.slice Try.underlying25 (by kernel_rfl) z52 opens52) enc W 0 _ true fuel _ _ hf
  obtain ⟨A1, c1, e1, hc1, hr1⟩ := g1
  obtain ⟨rfl, rfl, rfl⟩ : a1 = A1 ∧ len1 = x1.length ∧ cap1 = c1 := by simpa using e1
  have k2 := h2
  have lt2 : ∀ x ∈ p2, x.block < W.heap.size := by obtain ⟨m, hm⟩ := k2; exact DataW.trod_lt m _ _ _ hm
  obtain ⟨cs2, rfl, hs2⟩ := okWide_agg Try.underlying49 (hval 2 49 v2 rfl rfl)
  obtain ⟨x2, g2, o2⟩ : ∃ x, k49.K W x cs2.toList ∧ Ok49 x := by
    obtain ⟨fuel, hf⟩ := h2
    exact opens49 enc W 0 _ true fuel _ _ hf
  obtain e2 := k49_open g2
  obtain rfl : cs2 = #[.string x2.f0.f0, .bool x2.f0.f1, .int .i64 x2.f0.f2.f0, .int .i64 x2.f0.f2.f1, .int .i64 x2.f0.f2.f2, .string x2.f0.f2.f3, .string x2.f1.f0, .bool x2.f1.f1, .int .i64 x2.f1.f2.f0, .int .i64 x2.f1.f2.f1, .int .i64 x2.f1.f2.f2, .string x2.f1.f2.f3] := Array.toList_inj.1 e2
  clear hA0 hval0 hsz0 hsz
  refine (Go.Proofs.Ythcmelchgnekpaa.XHand.queueTwo_walk _ _ (x0.f0) (x0.f1) _ _ x1 (x2.f0.f0) (x2.f0.f1) (x2.f0.f2.f0) (x2.f0.f2.f1) (x2.f0.f2.f2) (x2.f0.f2.f3) (x2.f1.f0) (x2.f1.f1) (x2.f1.f2.f0) (x2.f1.f2.f1) (x2.f1.f2.f2) (x2.f1.f2.f3) W hr0_0 hc0_0 hr1 hc1 o0.1.1 o0.1.2 o1.1 o1.2 o2.1.1 o2.1.2.2.1 o2.1.2.2.2.1 o2.1.2.2.2.2.1 o2.1.2.2.2.2.2 o2.2.1 o2.2.2.2.1 o2.2.2.2.2.1 o2.2.2.2.2.2.1 o2.2.2.2.2.2.2).mono fun e W' ⟨he, bel⟩ => ?_
  subst he
  exact ⟨_, rfl, _, _, _, [], _, [], hW', trodAll_mk1 (shut_bool Try.underlying4 _), (trodAll_cons_mk (Below.trod laidOut (by kernel_rfl) (of_decide_eq_true (by kernel_rfl)) k0 bel lt0) (trodAll_cons_mk (Below.trod laidOut (by kernel_rfl) (of_decide_eq_true (by kernel_rfl)) k1 bel lt1) (trodAll_cons_mk (Below.trod laidOut (by kernel_rfl) (of_decide_eq_true (by kernel_rfl)) k2 bel lt2) trodAll_mk0))), rfl, bel.frame _, fun h => by cases h⟩
theorem over : Rows.queueTwoRow.holds Try.pinned (OpenSpec.ofChange Rows.queueTwoSpec) :=
  OpenClaim.holds_of_wide 7 Try.f7 rfl rfl rfl rfl rfl rfl rfl ⟨rfl, rfl, rfl, rfl, rfl⟩ rfl rfl rfl rfl rfl (by kernel_rfl) Try.func7 (by kernel_rfl)
    (of_decide_eq_true (by kernel_rfl)) (by unfold Func.isWrapper; first | (rw [if_pos (by decide +kernel)]; kernel_rfl) | (rw [if_neg (by decide +kernel)]; exact ⟨rfl, rfl⟩))
    (fun os started H enc _ => lifted os started H enc)
theorem proved : Rows.QueueTwoSaid := over
#print axioms proved
end Go.Proofs.Ythcmelchgnekpaa.queueTwo
namespace Go.Proofs.Ythcmelchgnekpaa
/-- The row, under a short name, for the claim. -/
theorem queueTwo_holds : Rows.QueueTwoSaid := queueTwo.proved
end Go.Proofs.Ythcmelchgnekpaa
