/- law of LinkEmits: the row, by its walk. -/
import Derived.Test.YtmigglldahkngaaBLinkEmits5
section
/- law18's LinkEmits, walked: what any link tells next, of any view, at any tick. -/
namespace Go.Proofs.Ytmigglldahkngaa.XHand
open Go.RowKit Go.Proofs.YtmigglldahkngaaW.PrintWords Go.Proofs.YtmigglldahkngaaW.PrintLast Go.Proofs.YtmigglldahkngaaW.PrintMore Go.Proofs.Ytmigglldahkngaa.PA Go.Proofs.Ytmigglldahkngaa.XMem Go.Proofs.Ytmigglldahkngaa.XSt Go.Proofs.Ytmigglldahkngaa.XKn Go.Proofs.Ytmigglldahkngaa.XQuiet Go.Proofs.Ytmigglldahkngaa.XTell
open Go.Proofs.Ytmigglldahkngaa.XSum (kSe Se)
open Go.Proofs.Ytmigglldahkngaa.XV17 (mayT mayK pushK newK newK_b linkMayK refMayK same18 few18_f fewS_f frames_f changes_f)
set_option linter.unusedVariables false
set_option linter.unusedSimpArgs false
set_option maxRecDepth 100000
set_option maxHeartbeats 8000000 in
theorem linkEmits_go (ok : Nat → Prop) (c0 c1 c2 c3 : Int) (s : Int) (A : Option Addr) (cc : Nat) (q : List Ch) (lat : Bool) (tok at_ : Int) (sn : Bool) (dg : Int) (B : Option Addr) (mc : Nat) (t : List Se) (now : Int) (w0 w : World) (S : Kn ok w0 [] nil tt [V kSe (.slice B t.length mc) t, V kCh (.slice A q.length cc) q] w) (hqs : ∀ x ∈ q, x.f0.size ≤ 9223372036854775807) (hts : ∀ x ∈ t, x.f0.size ≤ 9223372036854775807) :
  Calls Try.prog 4 #[.agg #[.int .i64 c0, .int .i64 c1, .int .i64 c2, .int .i64 c3], .agg #[.int .i64 s, .slice A q.length cc, .bool lat, .int .i64 tok, .int .i64 at_, .bool sn, .int .i64 dg], .agg #[.slice B t.length mc, .int .i64 now]] w fun e w' => e = .returned (.bool true) ∧ Below w0.heap.size w0 w' := by
 obtain ⟨b0, hb0, hl0⟩ := few18_f 60 s q lat tok at_ sn dg (by omega)
 obtain ⟨b1, hb1, hl1⟩ := fewS_f 60 t (by omega)
 have F0 := Aside0.mk hb0
 have F1 := Aside0.mk hb1
 have H0 := Aside0.mk hl0
 have H1 := Aside0.mk hl1
 have HQ := Aside0.mk hqs
 have HT := Aside0.mk hts
 clear hb0 hb1 hl0 hl1 hqs hts
 go_enter Try.func4, Try.ntmps4
 go_upto_region 1 with (fail)
 generalize hg : World.alloc _ _ = w1
 replace S := S.new3 hg
 clear hg
 generalize w.heap.size + 2 = p5 at S ⊢
 generalize w.heap.size + 1 = p4 at S ⊢
 generalize w.heap.size = p3 at S ⊢
 replace S : Kn ok w0 [(p5, .cells #[.slice B t.length mc, .int .i64 now] 48 (0, 0)), (p4, .cells #[.int .i64 s, .slice A q.length cc, .bool lat, .int .i64 tok, .int .i64 at_, .bool sn, .int .i64 dg] TLk (0, 0)), (p3, .cells #[.int .i64 c0, .int .i64 c1, .int .i64 c2, .int .i64 c3] TCf (0, 0))] nil tt [V kSe (.slice B t.length mc) t, V kCh (.slice A q.length cc) q] w1 := S
 have l_0 : w1.cell? ⟨p4, 0, none⟩ = some (.int .i64 s) := S.cell 1 0 rfl rfl
 have l_1 : w1.cell? ⟨p4, 1, none⟩ = some (.slice A q.length cc) := S.cell 1 1 rfl rfl
 have l_2 : w1.cell? ⟨p4, 2, none⟩ = some (.bool lat) := S.cell 1 2 rfl rfl
 have l_3 : w1.cell? ⟨p4, 3, none⟩ = some (.int .i64 tok) := S.cell 1 3 rfl rfl
 have l_4 : w1.cell? ⟨p4, 4, none⟩ = some (.int .i64 at_) := S.cell 1 4 rfl rfl
 have l_5 : w1.cell? ⟨p4, 5, none⟩ = some (.bool sn) := S.cell 1 5 rfl rfl
 have l_6 : w1.cell? ⟨p4, 6, none⟩ = some (.int .i64 dg) := S.cell 1 6 rfl rfl
 go_wp2_with fail
 refine (rollcallref18_Few.kn 60 F0.out (S.ft 1 rfl)).mono ?_
 rintro e w2 ⟨rfl, hb⟩
 replace S := S.below hb
 clear l_0 l_1 l_2 l_3 l_4 l_5 l_6 hb
 cases b0 with
 | false =>
  go_wp2_with fail
  refine (live_walk w2).mono ?_
  rintro e wl ⟨rfl, bl⟩
  go_wp2
  go_ret
  exact ⟨rfl, below_step S.bel bl⟩
 | true =>
  have hq := H0.out rfl
  clear F0 H0
  have v_0 : w2.cell? ⟨p5, 0, none⟩ = some (.slice B t.length mc) := S.cell 0 0 rfl rfl
  go_wp2_with fail
  refine (rollcallref05_Few.kn 60 F1.out (S.ft 0 rfl)).mono ?_
  rintro e w3 ⟨rfl, hb⟩
  replace S := S.below hb
  clear v_0 hb
  cases b1 with
  | false =>
   go_wp2_with fail
   refine (live_walk w3).mono ?_
   rintro e wl ⟨rfl, bl⟩
   go_wp2
   go_ret
   exact ⟨rfl, below_step S.bel bl⟩
  | true =>
   have ht := H1.out rfl
   clear F1 H1
   obtain ⟨R, hR, hfl, hql, hf6⟩ := emitK_all c0 c1 c2 c3 s q lat tok at_ sn dg t now (by omega)
   have FR := Aside0.mk hR
   have HQ2 := Aside0.mk (show q.length ≤ 40 by omega)
   have HT2 := Aside0.mk ht
   have FS := Aside0.mk (same18 1100 R.s R.q lat R.tok R.at_ R.sn R.dg (by omega) (by omega))
   have FF := Aside0.mk (frames_f 3000 R.fs (by omega) (fun f hf => by rcases hf6 f hf with h | h <;> rw [h]; omega; exact Nat.zero_le _) (by omega))
   clear hR hfl hql hf6 hq ht
   have c_0 : w3.cell? ⟨p3, 0, none⟩ = some (.int .i64 c0) := S.cell 2 0 rfl rfl
   have c_1 : w3.cell? ⟨p3, 1, none⟩ = some (.int .i64 c1) := S.cell 2 1 rfl rfl
   have c_2 : w3.cell? ⟨p3, 2, none⟩ = some (.int .i64 c2) := S.cell 2 2 rfl rfl
   have c_3 : w3.cell? ⟨p3, 3, none⟩ = some (.int .i64 c3) := S.cell 2 3 rfl rfl
   have l_0 : w3.cell? ⟨p4, 0, none⟩ = some (.int .i64 s) := S.cell 1 0 rfl rfl
   have l_1 : w3.cell? ⟨p4, 1, none⟩ = some (.slice A q.length cc) := S.cell 1 1 rfl rfl
   have l_2 : w3.cell? ⟨p4, 2, none⟩ = some (.bool lat) := S.cell 1 2 rfl rfl
   have l_3 : w3.cell? ⟨p4, 3, none⟩ = some (.int .i64 tok) := S.cell 1 3 rfl rfl
   have l_4 : w3.cell? ⟨p4, 4, none⟩ = some (.int .i64 at_) := S.cell 1 4 rfl rfl
   have l_5 : w3.cell? ⟨p4, 5, none⟩ = some (.bool sn) := S.cell 1 5 rfl rfl
   have l_6 : w3.cell? ⟨p4, 6, none⟩ = some (.int .i64 dg) := S.cell 1 6 rfl rfl
   have v_0 : w3.cell? ⟨p5, 0, none⟩ = some (.slice B t.length mc) := S.cell 0 0 rfl rfl
   have v_1 : w3.cell? ⟨p5, 1, none⟩ = some (.int .i64 now) := S.cell 0 1 rfl rfl
   go_wp2_with fail
   refine (emit_kn HQ2.out HQ.out HT2.out HT.out FR.out (S.ft 1 rfl) (S.ft 0 rfl)).mono ?_
   rintro e w4 ⟨A1, e1, B1, d1, rfl, hV, hF, hb⟩
   replace S := (S.call (f := (V kCh (.slice A1 R.q.length e1) R.q)) hb hV).add (f := (V kFr (.slice B1 R.fs.length d1) R.fs)) ((S.call hb hF).ft 0 rfl)
   clear c_0 c_1 c_2 c_3 l_0 l_1 l_2 l_3 l_4 l_5 l_6 v_0 v_1 hb hV hF
   go_upto_region 4 with (fail)
   generalize hg : World.alloc _ _ = w5
   replace S := S.new hg
   clear hg
   generalize w4.heap.size = p7 at S ⊢
   replace S : Kn ok w0 [(p7, .cells #[.int .i64 R.s, .slice A1 R.q.length e1, .bool lat, .int .i64 R.tok, .int .i64 R.at_, .bool R.sn, .int .i64 R.dg] TLk (0, 0)), (p5, .cells #[.slice B t.length mc, .int .i64 now] 48 (0, 0)), (p4, .cells #[.int .i64 s, .slice A q.length cc, .bool lat, .int .i64 tok, .int .i64 at_, .bool sn, .int .i64 dg] TLk (0, 0)), (p3, .cells #[.int .i64 c0, .int .i64 c1, .int .i64 c2, .int .i64 c3] TCf (0, 0))] nil tt [V kFr (.slice B1 R.fs.length d1) R.fs, V kCh (.slice A1 R.q.length e1) R.q, V kSe (.slice B t.length mc) t, V kCh (.slice A q.length cc) q] w5 := S
   have c_0 : w5.cell? ⟨p3, 0, none⟩ = some (.int .i64 c0) := S.cell 3 0 rfl rfl
   have c_1 : w5.cell? ⟨p3, 1, none⟩ = some (.int .i64 c1) := S.cell 3 1 rfl rfl
   have c_2 : w5.cell? ⟨p3, 2, none⟩ = some (.int .i64 c2) := S.cell 3 2 rfl rfl
   have c_3 : w5.cell? ⟨p3, 3, none⟩ = some (.int .i64 c3) := S.cell 3 3 rfl rfl
   have l_0 : w5.cell? ⟨p4, 0, none⟩ = some (.int .i64 s) := S.cell 2 0 rfl rfl
   have l_1 : w5.cell? ⟨p4, 1, none⟩ = some (.slice A q.length cc) := S.cell 2 1 rfl rfl
   have l_2 : w5.cell? ⟨p4, 2, none⟩ = some (.bool lat) := S.cell 2 2 rfl rfl
   have l_3 : w5.cell? ⟨p4, 3, none⟩ = some (.int .i64 tok) := S.cell 2 3 rfl rfl
   have l_4 : w5.cell? ⟨p4, 4, none⟩ = some (.int .i64 at_) := S.cell 2 4 rfl rfl
   have l_5 : w5.cell? ⟨p4, 5, none⟩ = some (.bool sn) := S.cell 2 5 rfl rfl
   have l_6 : w5.cell? ⟨p4, 6, none⟩ = some (.int .i64 dg) := S.cell 2 6 rfl rfl
   have v_0 : w5.cell? ⟨p5, 0, none⟩ = some (.slice B t.length mc) := S.cell 1 0 rfl rfl
   have v_1 : w5.cell? ⟨p5, 1, none⟩ = some (.int .i64 now) := S.cell 1 1 rfl rfl
   go_wp2_with fail
   refine (refEmit_kn HQ2.out FR.out (S.ft 3 rfl) (S.ft 2 rfl)).mono ?_
   rintro e w6 ⟨A2, e2, B2, d2, rfl, hV, hF, hb⟩
   replace S := (S.call (f := (V kCh (.slice A2 R.q.length e2) R.q)) hb hV).add (f := (V kFr (.slice B2 R.fs.length d2) R.fs)) ((S.call hb hF).ft 0 rfl)
   clear c_0 c_1 c_2 c_3 l_0 l_1 l_2 l_3 l_4 l_5 l_6 v_0 v_1 hb hV hF
   go_upto_region 5 with (fail)
   generalize hg : World.alloc _ _ = w7
   replace S := S.new hg
   clear hg
   generalize w6.heap.size = p9 at S ⊢
   replace S : Kn ok w0 [(p9, .cells #[.int .i64 R.s, .slice A2 R.q.length e2, .bool lat, .int .i64 R.tok, .int .i64 R.at_, .bool R.sn, .int .i64 R.dg] TLk (0, 0)), (p7, .cells #[.int .i64 R.s, .slice A1 R.q.length e1, .bool lat, .int .i64 R.tok, .int .i64 R.at_, .bool R.sn, .int .i64 R.dg] TLk (0, 0)), (p5, .cells #[.slice B t.length mc, .int .i64 now] 48 (0, 0)), (p4, .cells #[.int .i64 s, .slice A q.length cc, .bool lat, .int .i64 tok, .int .i64 at_, .bool sn, .int .i64 dg] TLk (0, 0)), (p3, .cells #[.int .i64 c0, .int .i64 c1, .int .i64 c2, .int .i64 c3] TCf (0, 0))] nil tt [V kFr (.slice B2 R.fs.length d2) R.fs, V kCh (.slice A2 R.q.length e2) R.q, V kFr (.slice B1 R.fs.length d1) R.fs, V kCh (.slice A1 R.q.length e1) R.q, V kSe (.slice B t.length mc) t, V kCh (.slice A q.length cc) q] w7 := S
   have a_0 : w7.cell? ⟨p7, 0, none⟩ = some (.int .i64 R.s) := S.cell 1 0 rfl rfl
   have a_1 : w7.cell? ⟨p7, 1, none⟩ = some (.slice A1 R.q.length e1) := S.cell 1 1 rfl rfl
   have a_2 : w7.cell? ⟨p7, 2, none⟩ = some (.bool lat) := S.cell 1 2 rfl rfl
   have a_3 : w7.cell? ⟨p7, 3, none⟩ = some (.int .i64 R.tok) := S.cell 1 3 rfl rfl
   have a_4 : w7.cell? ⟨p7, 4, none⟩ = some (.int .i64 R.at_) := S.cell 1 4 rfl rfl
   have a_5 : w7.cell? ⟨p7, 5, none⟩ = some (.bool R.sn) := S.cell 1 5 rfl rfl
   have a_6 : w7.cell? ⟨p7, 6, none⟩ = some (.int .i64 R.dg) := S.cell 1 6 rfl rfl
   have b_0 : w7.cell? ⟨p9, 0, none⟩ = some (.int .i64 R.s) := S.cell 0 0 rfl rfl
   have b_1 : w7.cell? ⟨p9, 1, none⟩ = some (.slice A2 R.q.length e2) := S.cell 0 1 rfl rfl
   have b_2 : w7.cell? ⟨p9, 2, none⟩ = some (.bool lat) := S.cell 0 2 rfl rfl
   have b_3 : w7.cell? ⟨p9, 3, none⟩ = some (.int .i64 R.tok) := S.cell 0 3 rfl rfl
   have b_4 : w7.cell? ⟨p9, 4, none⟩ = some (.int .i64 R.at_) := S.cell 0 4 rfl rfl
   have b_5 : w7.cell? ⟨p9, 5, none⟩ = some (.bool R.sn) := S.cell 0 5 rfl rfl
   have b_6 : w7.cell? ⟨p9, 6, none⟩ = some (.int .i64 R.dg) := S.cell 0 6 rfl rfl
   go_wp2_with fail
   refine (rollcallref18_Same.kn 1100 FS.out (S.ft 3 rfl) (S.ft 1 rfl)).mono ?_
   rintro e w8 ⟨rfl, hb⟩
   replace S := S.below hb
   clear a_0 a_1 a_2 a_3 a_4 a_5 a_6 b_0 b_1 b_2 b_3 b_4 b_5 b_6 hb
   go_wp2_with fail
   refine (rollcallref18_Frames.kn 3000 FF.out (S.ft 2 rfl) (S.ft 0 rfl)).mono ?_
   rintro e w9 ⟨rfl, hb⟩
   replace S := S.below hb
   clear hb
   go_wp2_with fail
   refine (live_walk w9).mono ?_
   rintro e w10 ⟨rfl, hb⟩
   replace S := S.below hb
   clear hb
   go_wp2
   go_ret
   exact ⟨rfl, S.bel⟩
theorem linkEmits_walk (c0 c1 c2 c3 : Int) (s : Int) (A : Option Addr) (cc : Nat) (q : List Ch) (lat : Bool) (tok at_ : Int) (sn : Bool) (dg : Int) (B : Option Addr) (mc : Nat) (t : List Se) (now : Int) (w : World) (hr1 : Kd.C kCh w A q.length q) (hc1 : q.length ≤ cc) (hr2 : Kd.C kSe w B t.length t) (hc2 : t.length ≤ mc) (g_c0 : (Lit.int .i64 c0).wf = true) (g_c1 : (Lit.int .i64 c1).wf = true) (g_c2 : (Lit.int .i64 c2).wf = true) (g_c3 : (Lit.int .i64 c3).wf = true) (g_s : (Lit.int .i64 s).wf = true) (m1 : q.length ≤ maxLen) (o1 : ∀ x ∈ q, Ok34 x) (g_tok : (Lit.int .i64 tok).wf = true) (g_at_ : (Lit.int .i64 at_).wf = true) (g_dg : (Lit.int .i64 dg).wf = true) (m2 : t.length ≤ maxLen) (o2 : ∀ x ∈ t, Ok72 x) (g_now : (Lit.int .i64 now).wf = true) :
  Calls Try.prog 4 #[.agg #[.int .i64 c0, .int .i64 c1, .int .i64 c2, .int .i64 c3], .agg #[.int .i64 s, .slice A q.length cc, .bool lat, .int .i64 tok, .int .i64 at_, .bool sn, .int .i64 dg], .agg #[.slice B t.length mc, .int .i64 now]] w fun e w' => e = .returned (.bool true) ∧ Below w.heap.size w w' :=
 linkEmits_go (fun _ => True) c0 c1 c2 c3 s A cc q lat tok at_ sn dg B mc t now w w (Kn.enter _ w (by simp only [List.mem_cons, List.not_mem_nil, or_false]; rintro f (rfl | rfl); exact Im.of_C kSe_heap hr2 hc2; exact Im.of_C kCh_heap hr1 hc1)) (fun x hx => by have := (o1 x hx).1; unfold maxLen at this; omega) (fun x hx => by have := (o2 x hx).1; unfold maxLen at this; omega)
end Go.Proofs.Ytmigglldahkngaa.XHand
end
section
-- Written by a program of this session (wip/tools/xprint.py), which drives the kit's print.
namespace Go.Proofs.Ytmigglldahkngaa.linkEmits
open Go.ChangeShapes Go.WideShapes Go.ChangeAt Go.RowKit Go.Proofs.YtmigglldahkngaaW.PrintWords Go.Proofs.YtmigglldahkngaaW.PrintLast Go.Proofs.YtmigglldahkngaaW.PrintMore Go.Proofs.Ytmigglldahkngaa.XOpen Go.Proofs.Ytmigglldahkngaa.PA
open Go.ChangeMaps (open_string shut_string)
set_option linter.unusedVariables false
set_option linter.unusedSimpArgs false
theorem own : ownKnob Try.prog.godebug = none := by kernel_rfl
theorem laidOut : laidOutB Try.prog = true := by kernel_rfl
theorem opens23 : Opens Try.prog 23 k23 Ok23 := Opens.iso (Opens.struct [3, 3, 3, 3] [1, 1, 1, 1] Try.underlying23 (by kernel_rfl) (by kernel_rfl) (by kernel_rfl) (by kernel_rfl) (OpensL.cons (Opens.int Try.underlying3) (OpensL.cons (Opens.int Try.underlying3) (OpensL.cons (Opens.int Try.underlying3) (OpensL.one (Opens.int Try.underlying3)))))) (fun x : S23 => (x.f0, x.f1, x.f2, x.f3)) (fun a => (⟨a.1, a.2.1, a.2.2.1, a.2.2.2⟩ : S23)) (fun _ => rfl)
theorem opens32 : Opens Try.prog 32 k32 Ok32 := Opens.iso (Opens.struct [3, 3, 3, 9] [1, 1, 1, 1] Try.underlying32 (by kernel_rfl) (by kernel_rfl) (by kernel_rfl) (by kernel_rfl) (OpensL.cons (Opens.int Try.underlying3) (OpensL.cons (Opens.int Try.underlying3) (OpensL.cons (Opens.int Try.underlying3) (OpensL.one (Opens.string Try.underlying9)))))) (fun x : S32 => (x.f0, x.f1, x.f2, x.f3)) (fun a => (⟨a.1, a.2.1, a.2.2.1, a.2.2.2⟩ : S32)) (fun _ => rfl)
theorem opens34 : Opens Try.prog 34 k34 Ok34 := Opens.iso (Opens.struct [9, 4, 32] [1, 1, 4] Try.underlying34 (by kernel_rfl) (by kernel_rfl) (by kernel_rfl) (by kernel_rfl) (OpensL.cons (Opens.string Try.underlying9) (OpensL.cons (Opens.bool Try.underlying4) (OpensL.one opens32)))) (fun x : S34 => (x.f0, x.f1, x.f2)) (fun a => (⟨a.1, a.2.1, a.2.2⟩ : S34)) (fun _ => rfl)
theorem opens26 : Opens Try.prog 26 k26 Ok26 := Opens.iso (Opens.struct [24, 4] [1, 1] Try.underlying26 (by kernel_rfl) (by kernel_rfl) (by kernel_rfl) (by kernel_rfl) (OpensL.cons (Opens.slice Try.underlying24 (by kernel_rfl) z34 opens34) (OpensL.one (Opens.bool Try.underlying4)))) (fun x : S26 => (x.f0, x.f1)) (fun a => (⟨a.1, a.2⟩ : S26)) (fun _ => rfl)
theorem opens28 : Opens Try.prog 28 k28 Ok28 := Opens.iso (Opens.struct [3, 3] [1, 1] Try.underlying28 (by kernel_rfl) (by kernel_rfl) (by kernel_rfl) (by kernel_rfl) (OpensL.cons (Opens.int Try.underlying3) (OpensL.one (Opens.int Try.underlying3)))) (fun x : S28 => (x.f0, x.f1)) (fun a => (⟨a.1, a.2⟩ : S28)) (fun _ => rfl)
theorem opens30 : Opens Try.prog 30 k30 Ok30 := Opens.iso (Opens.struct [3, 26, 28, 4, 3] [1, 2, 2, 1, 1] Try.underlying30 (by kernel_rfl) (by kernel_rfl) (by kernel_rfl) (by kernel_rfl) (OpensL.cons (Opens.int Try.underlying3) (OpensL.cons opens26 (OpensL.cons opens28 (OpensL.cons (Opens.bool Try.underlying4) (OpensL.one (Opens.int Try.underlying3))))))) (fun x : S30 => (x.f0, x.f1, x.f2, x.f3, x.f4)) (fun a => (⟨a.1, a.2.1, a.2.2.1, a.2.2.2.1, a.2.2.2.2⟩ : S30)) (fun _ => rfl)
theorem opens72 : Opens Try.prog 72 k72 Ok72 := Opens.iso (Opens.struct [9, 32] [1, 4] Try.underlying72 (by kernel_rfl) (by kernel_rfl) (by kernel_rfl) (by kernel_rfl) (OpensL.cons (Opens.string Try.underlying9) (OpensL.one opens32))) (fun x : S72 => (x.f0, x.f1)) (fun a => (⟨a.1, a.2⟩ : S72)) (fun _ => rfl)
theorem opens48 : Opens Try.prog 48 k48 Ok48 := Opens.iso (Opens.struct [46, 3] [1, 1] Try.underlying48 (by kernel_rfl) (by kernel_rfl) (by kernel_rfl) (by kernel_rfl) (OpensL.cons (Opens.slice Try.underlying46 (by kernel_rfl) z72 opens72) (OpensL.one (Opens.int Try.underlying3)))) (fun x : S48 => (x.f0, x.f1)) (fun a => (⟨a.1, a.2⟩ : S48)) (fun _ => rfl)
set_option maxRecDepth 100000 in
theorem lifted (os : Os) (started : os.Started) (H : Type) (enc : TypeId × Value → H) :
  ReturnsInHanded {} Try.checked os 4 .any (Rows.linkEmitsSpec.pre6 enc Try.prog Try.f4 Rows.linkEmitsRow.domain false) (Rows.linkEmitsSpec.post enc Try.prog Try.f4 false true false false) := by
 refine returnsInHanded_of_change_sized (C := Try.checked) own started (by kernel_rfl) Try.func4
  (ChangeSpec.witness6 (enc := enc) (C := Try.checked) false ⟨#[], #[.agg #[.int .i64 0, .int .i64 0, .int .i64 0, .int .i64 0], .agg #[.int .i64 0, .slice none 0 0, .bool false, .int .i64 0, .int .i64 0, .bool false, .int .i64 0], .agg #[.slice none 0 0, .int .i64 0]], []⟩ 8 (by kernel_rfl) (by kernel_rfl) (by kernel_rfl) (by kernel_rfl)) ?_
 intro W base args ds gs before hval0 hW hcnd hsz0 _
 have hsz : (DataW.weightsEach Try.prog (Try.f4.params.toList ++ Rows.linkEmitsSpec.plain.varTypes Try.prog) (ds ++ gs)).all (· ≤ reachBytes) = true := hsz0
 have hval : ∀ (j : Nat) t v, Try.f4.params[j]? = some t → args[j]? = some v → Value.okWide Try.prog W .any base t v := hval0
 have hW' := hW
 obtain ⟨p, q, hA0, hV, rfl, hfz, hnd⟩ := hW
 have hA : DataW.TrodAll enc Try.prog W 0 (fun _ => true) true Try.f4.params.toList args.toList ds p := hA0
 rw [Try.params4] at hA hval hsz
 obtain ⟨v0, vs0, d0, ds0, p0, q0, hargs, rfl, rfl, h0, r0⟩ := trodAll_cons hA
 obtain ⟨v1, vs1, d1, ds1, p1, q1, rfl, rfl, rfl, h1, r1⟩ := trodAll_cons r0
 obtain ⟨v2, vs2, d2, ds2, p2, q2, rfl, rfl, rfl, h2, r2⟩ := trodAll_cons r1
 obtain ⟨rfl, rfl, rfl⟩ := trodAll_nil r2
 obtain rfl : args = #[v0, v1, v2] := by cases args; simp_all
 obtain ⟨rfl, rfl⟩ := trodVars_none hV
 have k0 := h0
 have lt0 : ∀ x ∈ p0, x.block < W.heap.size := by obtain ⟨m, hm⟩ := k0; exact DataW.trod_lt m _ _ _ hm
 obtain ⟨cs0, rfl, hs0⟩ := okWide_struct Try.underlying23 (hval 0 23 v0 rfl rfl)
 obtain ⟨x0, g0, o0⟩ : ∃ x, k23.K W x cs0.toList ∧ Ok23 x := by
  obtain ⟨fuel, hf⟩ := h0
  exact opens23 enc W 0 _ true fuel _ _ hf
 obtain e0 := k23_open g0
 obtain rfl : cs0 = #[.int .i64 x0.f0, .int .i64 x0.f1, .int .i64 x0.f2, .int .i64 x0.f3] := Array.toList_inj.1 e0
 have k1 := h1
 have lt1 : ∀ x ∈ p1, x.block < W.heap.size := by obtain ⟨m, hm⟩ := k1; exact DataW.trod_lt m _ _ _ hm
 obtain ⟨cs1, rfl, hs1⟩ := okWide_struct Try.underlying30 (hval 1 30 v1 rfl rfl)
 obtain ⟨x1, g1, o1⟩ : ∃ x, k30.K W x cs1.toList ∧ Ok30 x := by
  obtain ⟨fuel, hf⟩ := h1
  exact opens30 enc W 0 _ true fuel _ _ hf
 obtain ⟨A1_1, c1_1, e1, hc1_1, hr1_1⟩ := k30_open g1
 obtain rfl : cs1 = #[.int .i64 x1.f0, .slice A1_1 (x1.f1.f0).length c1_1, .bool x1.f1.f1, .int .i64 x1.f2.f0, .int .i64 x1.f2.f1, .bool x1.f3, .int .i64 x1.f4] := Array.toList_inj.1 e1
 have k2 := h2
 have lt2 : ∀ x ∈ p2, x.block < W.heap.size := by obtain ⟨m, hm⟩ := k2; exact DataW.trod_lt m _ _ _ hm
 obtain ⟨cs2, rfl, hs2⟩ := okWide_struct Try.underlying48 (hval 2 48 v2 rfl rfl)
 obtain ⟨x2, g2, o2⟩ : ∃ x, k48.K W x cs2.toList ∧ Ok48 x := by
  obtain ⟨fuel, hf⟩ := h2
  exact opens48 enc W 0 _ true fuel _ _ hf
 obtain ⟨A2_0, c2_0, e2, hc2_0, hr2_0⟩ := k48_open g2
 obtain rfl : cs2 = #[.slice A2_0 (x2.f0).length c2_0, .int .i64 x2.f1] := Array.toList_inj.1 e2
 clear hA0 hval0 hsz0 hsz
 refine (Go.Proofs.Ytmigglldahkngaa.XHand.linkEmits_walk (x0.f0) (x0.f1) (x0.f2) (x0.f3) (x1.f0) _ _ (x1.f1.f0) (x1.f1.f1) (x1.f2.f0) (x1.f2.f1) (x1.f3) (x1.f4) _ _ (x2.f0) (x2.f1) W hr1_1 hc1_1 hr2_0 hc2_0 o0.1 o0.2.1 o0.2.2.1 o0.2.2.2 o1.1 o1.2.1.1.1 o1.2.1.1.2 o1.2.2.1.1 o1.2.2.1.2 o1.2.2.2.2 o2.1.1 o2.1.2 o2.2).mono fun e W' ⟨he, bel⟩ => ?_
 subst he
 exact ⟨_, rfl, _, _, _, [], _, [], hW', trodAll_mk1 (shut_bool Try.underlying4 _), (trodAll_cons_mk (Below.trod laidOut (by kernel_rfl) (of_decide_eq_true (by kernel_rfl)) k0 bel lt0) (trodAll_cons_mk (Below.trod laidOut (by kernel_rfl) (of_decide_eq_true (by kernel_rfl)) k1 bel lt1) (trodAll_cons_mk (Below.trod laidOut (by kernel_rfl) (of_decide_eq_true (by kernel_rfl)) k2 bel lt2) trodAll_mk0))), rfl, bel.frame _, fun h => by cases h⟩
theorem over : Rows.linkEmitsRow.holds Try.pinned (OpenSpec.ofChange Rows.linkEmitsSpec) :=
 OpenClaim.holds_of_wide 4 Try.f4 rfl rfl rfl rfl rfl rfl rfl ⟨rfl, rfl, rfl, rfl, rfl⟩ rfl rfl rfl rfl rfl (by kernel_rfl) Try.func4 (by kernel_rfl)
  (of_decide_eq_true (by kernel_rfl)) (by unfold Func.isWrapper; first | (rw [if_pos (by decide +kernel)]; kernel_rfl) | (rw [if_neg (by decide +kernel)]; exact ⟨rfl, rfl⟩))
  (fun os started H enc _ => lifted os started H enc)
theorem proved : Rows.LinkEmitsSaid := over
#print axioms proved
end Go.Proofs.Ytmigglldahkngaa.linkEmits
namespace Go.Proofs.Ytmigglldahkngaa
/-- The row, under a short name, for the claim. -/
theorem linkEmits_holds : Rows.LinkEmitsSaid := linkEmits.proved
end Go.Proofs.Ytmigglldahkngaa
end
