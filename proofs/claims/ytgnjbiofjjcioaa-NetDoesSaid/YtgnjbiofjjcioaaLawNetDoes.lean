-- Written by a program of this session (wip/tools/xprint.py), which drives the kit's print.
import Derived.Test.YtgnjbiofjjcioaaRows
import Derived.Test.YtgnjbiofjjcioaaPAx3
import Derived.Test.YtgnjbiofjjcioaaXOpen
import Derived.Test.YtgnjbiofjjcioaaPureNetDoes
import Derived.WalkKit
import Derived.ProofKit
import Derived.OpenShut
import Derived.ShutString
import Derived.ChangeOld
import Derived.Below
import Derived.SizedLaws
import Derived.Test.YtgnjbiofjjcioaaWSized
namespace Go.Proofs.Ytgnjbiofjjcioaa.netDoes
open Go.ChangeShapes Go.WideShapes Go.ChangeAt Go.RowKit Go.Proofs.YtgnjbiofjjcioaaW.PrintWords Go.Proofs.YtgnjbiofjjcioaaW.PrintLast Go.Proofs.YtgnjbiofjjcioaaW.PrintMore Go.Proofs.Ytgnjbiofjjcioaa.XOpen Go.Proofs.Ytgnjbiofjjcioaa.PA
open Go.ChangeMaps (open_string shut_string)
set_option linter.unusedVariables false
set_option linter.unusedSimpArgs false
theorem own : ownKnob Try.prog.godebug = none := by kernel_rfl
theorem laidOut : laidOutB Try.prog = true := by kernel_rfl
theorem opens24 : Opens Try.prog 24 k24 Ok24 := Opens.iso (Opens.struct [3, 3, 3, 9] [1, 1, 1, 1] Try.underlying24 (by kernel_rfl) (by kernel_rfl) (by kernel_rfl) (by kernel_rfl) (OpensL.cons (Opens.int Try.underlying3) (OpensL.cons (Opens.int Try.underlying3) (OpensL.cons (Opens.int Try.underlying3) (OpensL.one (Opens.string Try.underlying9)))))) (fun x : S24 => (x.f0, x.f1, x.f2, x.f3)) (fun a => (⟨a.1, a.2.1, a.2.2.1, a.2.2.2⟩ : S24)) (fun _ => rfl)
theorem opens26 : Opens Try.prog 26 k26 Ok26 := Opens.iso (Opens.struct [3, 9, 9, 3, 24] [1, 1, 1, 1, 4] Try.underlying26 (by kernel_rfl) (by kernel_rfl) (by kernel_rfl) (by kernel_rfl) (OpensL.cons (Opens.int Try.underlying3) (OpensL.cons (Opens.string Try.underlying9) (OpensL.cons (Opens.string Try.underlying9) (OpensL.cons (Opens.int Try.underlying3) (OpensL.one opens24)))))) (fun x : S26 => (x.f0, x.f1, x.f2, x.f3, x.f4)) (fun a => (⟨a.1, a.2.1, a.2.2.1, a.2.2.2.1, a.2.2.2.2⟩ : S26)) (fun _ => rfl)
theorem opens28 : Opens Try.prog 28 k28 Ok28 := Opens.iso (Opens.struct [3, 26, 9, 3, 3, 9] [1, 8, 1, 1, 1, 1] Try.underlying28 (by kernel_rfl) (by kernel_rfl) (by kernel_rfl) (by kernel_rfl) (OpensL.cons (Opens.int Try.underlying3) (OpensL.cons opens26 (OpensL.cons (Opens.string Try.underlying9) (OpensL.cons (Opens.int Try.underlying3) (OpensL.cons (Opens.int Try.underlying3) (OpensL.one (Opens.string Try.underlying9)))))))) (fun x : S28 => (x.f0, x.f1, x.f2, x.f3, x.f4, x.f5)) (fun a => (⟨a.1, a.2.1, a.2.2.1, a.2.2.2.1, a.2.2.2.2.1, a.2.2.2.2.2⟩ : S28)) (fun _ => rfl)
set_option maxRecDepth 100000 in
theorem lifted (os : Os) (started : os.Started) (H : Type) (enc : TypeId × Value → H) :
    ReturnsInHanded {} Try.checked os 3 .any (Rows.netDoesSpec.pre6 enc Try.prog Try.f3 Rows.netDoesRow.domain false) (Rows.netDoesSpec.post enc Try.prog Try.f3 false true false false) := by
  refine returnsInHanded_of_change_sized (C := Try.checked) own started (by kernel_rfl) Try.func3
    (ChangeSpec.witness6 (enc := enc) (C := Try.checked) false ⟨#[], #[.slice none 0 0, .agg #[.int .i64 0, .int .i64 0, .string ByteArray.empty, .string ByteArray.empty, .int .i64 0, .int .i64 0, .int .i64 0, .int .i64 0, .string ByteArray.empty, .string ByteArray.empty, .int .i64 0, .int .i64 0, .string ByteArray.empty], .int .i64 0], []⟩ 8 (by kernel_rfl) (by kernel_rfl) (by kernel_rfl) (by kernel_rfl)) ?_
  intro W base args ds gs before hval0 hW hcnd hsz0 _
  have hsz : (DataW.weightsEach Try.prog (Try.f3.params.toList ++ Rows.netDoesSpec.plain.varTypes Try.prog) (ds ++ gs)).all (· ≤ reachBytes) = true := hsz0
  have hval : ∀ (j : Nat) t v, Try.f3.params[j]? = some t → args[j]? = some v → Value.okWide Try.prog W .any base t v := hval0
  have hW' := hW
  obtain ⟨p, q, hA0, hV, rfl, hfz, hnd⟩ := hW
  have hA : DataW.TrodAll enc Try.prog W 0 (fun _ => true) true Try.f3.params.toList args.toList ds p := hA0
  rw [Try.params3] at hA hval hsz
  obtain ⟨v0, vs0, d0, ds0, p0, q0, hargs, rfl, rfl, h0, r0⟩ := trodAll_cons hA
  obtain ⟨v1, vs1, d1, ds1, p1, q1, rfl, rfl, rfl, h1, r1⟩ := trodAll_cons r0
  obtain ⟨v2, vs2, d2, ds2, p2, q2, rfl, rfl, rfl, h2, r2⟩ := trodAll_cons r1
  obtain ⟨rfl, rfl, rfl⟩ := trodAll_nil r2
  obtain rfl : args = #[v0, v1, v2] := by cases args; simp_all
  obtain ⟨rfl, rfl⟩ := trodVars_none hV
  have k0 := h0
  have lt0 : ∀ x ∈ p0, x.block < W.heap.size := by obtain ⟨m, hm⟩ := k0; exact DataW.trod_lt m _ _ _ hm
  obtain ⟨a0, len0, cap0, rfl⟩ := okWide_slice Try.underlying22 (hval 0 22 v0 rfl rfl)
  obtain ⟨x0, g0, o0⟩ : ∃ x, (Kd.slice 9 Kd.string).K W x [.slice a0 len0 cap0] ∧ (x.length ≤ maxLen ∧ ∀ y_ ∈ x, y_.size ≤ maxLen) := by
    obtain ⟨fuel, hf⟩ := h0
    exact (Opens.slice Try.underlying22 (by kernel_rfl) ByteArray.empty (Opens.string Try.underlying9)) enc W 0 _ true fuel _ _ hf
  obtain ⟨A0, c0, e0, hc0, hr0⟩ := g0
  obtain ⟨rfl, rfl, rfl⟩ : a0 = A0 ∧ len0 = x0.length ∧ cap0 = c0 := by simpa using e0
  have k1 := h1
  have lt1 : ∀ x ∈ p1, x.block < W.heap.size := by obtain ⟨m, hm⟩ := k1; exact DataW.trod_lt m _ _ _ hm
  obtain ⟨cs1, rfl, hs1⟩ := okWide_struct Try.underlying28 (hval 1 28 v1 rfl rfl)
  obtain ⟨x1, g1, o1⟩ : ∃ x, k28.K W x cs1.toList ∧ Ok28 x := by
    obtain ⟨fuel, hf⟩ := h1
    exact opens28 enc W 0 _ true fuel _ _ hf
  obtain e1 := k28_open g1
  obtain rfl : cs1 = #[.int .i64 x1.f0, .int .i64 x1.f1.f0, .string x1.f1.f1, .string x1.f1.f2, .int .i64 x1.f1.f3, .int .i64 x1.f1.f4.f0, .int .i64 x1.f1.f4.f1, .int .i64 x1.f1.f4.f2, .string x1.f1.f4.f3, .string x1.f2, .int .i64 x1.f3, .int .i64 x1.f4, .string x1.f5] := Array.toList_inj.1 e1
  obtain ⟨a2, rfl, rfl, rfl, w2⟩ := open_int Try.underlying3 (hval 2 3 v2 rfl rfl) h2
  clear hA0 hval0 hsz0 hsz
  refine (PA.rollcalllaw22_NetDoes.walkx Pure.NetDoes _ _ x0 (x1.f0) (x1.f1.f0) (x1.f1.f1) (x1.f1.f2) (x1.f1.f3) (x1.f1.f4.f0) (x1.f1.f4.f1) (x1.f1.f4.f2) (x1.f1.f4.f3) (x1.f2) (x1.f3) (x1.f4) (x1.f5) a2 W hr0 hc0 o0.1 o0.2 o1.1 o1.2.1.1 o1.2.1.2.1 o1.2.1.2.2.1 o1.2.1.2.2.2.1 o1.2.1.2.2.2.2.1 o1.2.1.2.2.2.2.2.1 o1.2.1.2.2.2.2.2.2.1 o1.2.1.2.2.2.2.2.2.2 o1.2.2.1 o1.2.2.2.1 o1.2.2.2.2.1 o1.2.2.2.2.2 w2).mono fun e W' ⟨he, bel⟩ => ?_
  subst he
  exact ⟨_, rfl, _, _, _, [], _, [], hW', trodAll_mk1 (shut_bool Try.underlying4 _), (trodAll_cons_mk (Below.trod laidOut (by kernel_rfl) (of_decide_eq_true (by kernel_rfl)) k0 bel lt0) (trodAll_cons_mk (Below.trod laidOut (by kernel_rfl) (of_decide_eq_true (by kernel_rfl)) k1 bel lt1) (trodAll_cons_mk (shut_int Try.underlying3 w2) trodAll_mk0))), rfl, bel.frame _, fun h => by cases h⟩
theorem over : Rows.netDoesRow.holds Try.pinned (OpenSpec.ofChange Rows.netDoesSpec) :=
  OpenClaim.holds_of_wide 3 Try.f3 rfl rfl rfl rfl rfl rfl rfl ⟨rfl, rfl, rfl, rfl, rfl⟩ rfl rfl rfl rfl rfl (by kernel_rfl) Try.func3 (by kernel_rfl)
    (of_decide_eq_true (by kernel_rfl)) (by unfold Func.isWrapper; first | (rw [if_pos (by decide +kernel)]; kernel_rfl) | (rw [if_neg (by decide +kernel)]; exact ⟨rfl, rfl⟩))
    (fun os started H enc _ => lifted os started H enc)
theorem proved : Rows.NetDoesSaid := over
#print axioms proved
end Go.Proofs.Ytgnjbiofjjcioaa.netDoes
namespace Go.Proofs.Ytgnjbiofjjcioaa
/-- The row, under a short name, for the claim. -/
theorem netDoes_holds : Rows.NetDoesSaid := netDoes.proved
end Go.Proofs.Ytgnjbiofjjcioaa
