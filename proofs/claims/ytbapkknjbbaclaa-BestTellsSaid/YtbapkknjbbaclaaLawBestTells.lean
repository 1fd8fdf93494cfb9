-- Written by a program of this session (wip/tools/xprint.py), which drives the kit's print.
import Derived.Test.YtbapkknjbbaclaaRows
import Derived.Test.YtbapkknjbbaclaaPAx10
import Derived.Test.YtbapkknjbbaclaaXOpen
import Derived.Test.YtbapkknjbbaclaaPureBestTells
import Derived.WalkKit
import Derived.ProofKit
import Derived.OpenShut
import Derived.ShutString
import Derived.ChangeOld
import Derived.Below
import Derived.SizedLaws
import Derived.Test.YtbapkknjbbaclaaWSized
namespace Go.Proofs.Ytbapkknjbbaclaa.bestTells
open Go.ChangeShapes Go.WideShapes Go.ChangeAt Go.RowKit Go.Proofs.YtbapkknjbbaclaaW.PrintWords Go.Proofs.YtbapkknjbbaclaaW.PrintLast Go.Proofs.YtbapkknjbbaclaaW.PrintMore Go.Proofs.Ytbapkknjbbaclaa.XOpen Go.Proofs.Ytbapkknjbbaclaa.PA
open Go.ChangeMaps (open_string shut_string)
set_option linter.unusedVariables false
set_option linter.unusedSimpArgs false
theorem own : ownKnob Try.prog.godebug = none := by kernel_rfl
theorem laidOut : laidOutB Try.prog = true := by kernel_rfl
theorem opens24 : Opens Try.prog 24 k24 Ok24 := Opens.iso (Opens.struct [3, 3, 3, 9] [1, 1, 1, 1] Try.underlying24 (by kernel_rfl) (by kernel_rfl) (by kernel_rfl) (by kernel_rfl) (OpensL.cons (Opens.int Try.underlying3) (OpensL.cons (Opens.int Try.underlying3) (OpensL.cons (Opens.int Try.underlying3) (OpensL.one (Opens.string Try.underlying9)))))) (fun x : S24 => (x.f0, x.f1, x.f2, x.f3)) (fun a => (⟨a.1, a.2.1, a.2.2.1, a.2.2.2⟩ : S24)) (fun _ => rfl)
theorem opens34 : Opens Try.prog 34 k34 Ok34 := Opens.iso (Opens.struct [9, 3, 24] [1, 1, 4] Try.underlying34 (by kernel_rfl) (by kernel_rfl) (by kernel_rfl) (by kernel_rfl) (OpensL.cons (Opens.string Try.underlying9) (OpensL.cons (Opens.int Try.underlying3) (OpensL.one opens24)))) (fun x : S34 => (x.f0, x.f1, x.f2)) (fun a => (⟨a.1, a.2.1, a.2.2⟩ : S34)) (fun _ => rfl)
set_option maxRecDepth 100000 in
theorem lifted (os : Os) (started : os.Started) (H : Type) (enc : TypeId × Value → H) :
    ReturnsInHanded {} Try.checked os 3 .any (Rows.bestTellsSpec.pre6 enc Try.prog Try.f3 Rows.bestTellsRow.domain false) (Rows.bestTellsSpec.post enc Try.prog Try.f3 false true false false) := by
  refine returnsInHanded_of_change_sized (C := Try.checked) own started (by kernel_rfl) Try.func3
    (ChangeSpec.witness6 (enc := enc) (C := Try.checked) false ⟨#[], #[.slice none 0 0, .agg #[.int .i64 0, .int .i64 0, .int .i64 0, .string ByteArray.empty], .agg #[.int .i64 0, .int .i64 0, .int .i64 0, .string ByteArray.empty]], []⟩ 8 (by kernel_rfl) (by kernel_rfl) (by kernel_rfl) (by kernel_rfl)) ?_
  intro W base args ds gs before hval0 hW hcnd hsz0 _
  have hsz : (DataW.weightsEach Try.prog (Try.f3.params.toList ++ Rows.bestTellsSpec.plain.varTypes Try.prog) (ds ++ gs)).all (· ≤ reachBytes) = true := hsz0
  have hval : ∀ (j : Nat) t v, Try.f3.params[j]? = some t → args[j]? = some v → Value.okWide Try.prog W .any base t v := hval0
  have hW' := hW
  obtain ⟨p, q, hA0, hV, rfl, hfz, hnd⟩ := hW
  have hA : DataW.TrodAll enc Try.prog W 0 (fun _ => true) true Try.f3.params.toList args.toList ds p := hA0
  rw [Try.params3] at hA hval hsz
  obtain ⟨v0, vs0, d0, ds0, p0, q0, hargs, rfl, rfl, h0, r0⟩ := trodAll_cons hA
  obtain ⟨v1, vs1, d1, ds1, p1, q1, rfl, rfl, rfl, h1, r1⟩ := trodAll_cons r0
  obtain ⟨v2, vs2, d2, ds2, p2, q2, rfl, rfl, rfl, h2, r2⟩ := trodAll_cons r1
  obtain ⟨rfl, rfl, rfl⟩ := trodAll_nil r2
  obtain rfl : args = #[v0, v1, v2] := by cases args; simp_all
  obtain ⟨rfl, rfl⟩ := trodVars_none hV
  have k0 := h0
  have lt0 : ∀ x ∈ p0, x.block < W.heap.size := by obtain ⟨m, hm⟩ := k0; exact DataW.trod_lt m _ _ _ hm
  obtain ⟨a0, len0, cap0, rfl⟩ := okWide_slice Try.underlying22 (hval 0 22 v0 rfl rfl)
  obtain ⟨x0, g0, o0⟩ : ∃ x, (Kd.slice 34 k34).K W x [.slice a0 len0 cap0] ∧ (x.length ≤ maxLen ∧ ∀ y_ ∈ x, Ok34 y_) := by
    obtain ⟨fuel, hf⟩ := h0
    exact (Opens.slice Try.underlying22 (by kernel_rfl) z34 opens34) enc W 0 _ true fuel _ _ hf
  obtain ⟨A0, c0, e0, hc0, hr0⟩ := g0
  obtain ⟨rfl, rfl, rfl⟩ : a0 = A0 ∧ len0 = x0.length ∧ cap0 = c0 := by simpa using e0
  have k1 := h1
  have lt1 : ∀ x ∈ p1, x.block < W.heap.size := by obtain ⟨m, hm⟩ := k1; exact DataW.trod_lt m _ _ _ hm
  obtain ⟨cs1, rfl, hs1⟩ := okWide_struct Try.underlying24 (hval 1 24 v1 rfl rfl)
  obtain ⟨x1, g1, o1⟩ : ∃ x, k24.K W x cs1.toList ∧ Ok24 x := by
    obtain ⟨fuel, hf⟩ := h1
    exact opens24 enc W 0 _ true fuel _ _ hf
  obtain e1 := k24_open g1
  obtain rfl : cs1 = #[.int .i64 x1.f0, .int .i64 x1.f1, .int .i64 x1.f2, .string x1.f3] := Array.toList_inj.1 e1
  have k2 := h2
  have lt2 : ∀ x ∈ p2, x.block < W.heap.size := by obtain ⟨m, hm⟩ := k2; exact DataW.trod_lt m _ _ _ hm
  obtain ⟨cs2, rfl, hs2⟩ := okWide_struct Try.underlying24 (hval 2 24 v2 rfl rfl)
  obtain ⟨x2, g2, o2⟩ : ∃ x, k24.K W x cs2.toList ∧ Ok24 x := by
    obtain ⟨fuel, hf⟩ := h2
    exact opens24 enc W 0 _ true fuel _ _ hf
  obtain e2 := k24_open g2
  obtain rfl : cs2 = #[.int .i64 x2.f0, .int .i64 x2.f1, .int .i64 x2.f2, .string x2.f3] := Array.toList_inj.1 e2
  clear hA0 hval0 hsz0 hsz
  refine (PA.rollcalllaw11_BestTells.walkx Pure.BestTells _ _ x0 (x1.f0) (x1.f1) (x1.f2) (x1.f3) (x2.f0) (x2.f1) (x2.f2) (x2.f3) W hr0 hc0 o0.1 o0.2 o1.1 o1.2.1 o1.2.2.1 o1.2.2.2 o2.1 o2.2.1 o2.2.2.1 o2.2.2.2).mono fun e W' ⟨he, bel⟩ => ?_
  subst he
  exact ⟨_, rfl, _, _, _, [], _, [], hW', trodAll_mk1 (shut_bool Try.underlying4 _), (trodAll_cons_mk (Below.trod laidOut (by kernel_rfl) (of_decide_eq_true (by kernel_rfl)) k0 bel lt0) (trodAll_cons_mk (Below.trod laidOut (by kernel_rfl) (of_decide_eq_true (by kernel_rfl)) k1 bel lt1) (trodAll_cons_mk (Below.trod laidOut (by kernel_rfl) (of_decide_eq_true (by kernel_rfl)) k2 bel lt2) trodAll_mk0))), rfl, bel.frame _, fun h => by cases h⟩
theorem over : Rows.bestTellsRow.holds Try.pinned (OpenSpec.ofChange Rows.bestTellsSpec) :=
  OpenClaim.holds_of_wide 3 Try.f3 rfl rfl rfl rfl rfl rfl rfl ⟨rfl, rfl, rfl, rfl, rfl⟩ rfl rfl rfl rfl rfl (by kernel_rfl) Try.func3 (by kernel_rfl)
    (of_decide_eq_true (by kernel_rfl)) (by unfold Func.isWrapper; first | (rw [if_pos (by decide +kernel)]; kernel_rfl) | (rw [if_neg (by decide +kernel)]; exact ⟨rfl, rfl⟩))
    (fun os started H enc _ => lifted os started H enc)
theorem proved : Rows.BestTellsSaid := over
#print axioms proved
end Go.Proofs.Ytbapkknjbbaclaa.bestTells
namespace Go.Proofs.Ytbapkknjbbaclaa
/-- The row, under a short name, for the claim. -/
theorem bestTells_holds : Rows.BestTellsSaid := bestTells.proved
end Go.Proofs.Ytbapkknjbbaclaa
