/- law of FrameSizes: the row, by its walk. -/
import Derived.Test.YtjccgdnnnlgeeaaBitesizesbles4
section
/- law06's FrameSizes, walked: no frame has more bytes than may be. -/
namespace Go.Proofs.Ytjccgdnnnlgeeaa.XHand
open Go.RowKit Go.Proofs.YtjccgdnnnlgeeaaW.PrintWords Go.Proofs.YtjccgdnnnlgeeaaW.PrintLast Go.Proofs.YtjccgdnnnlgeeaaW.PrintMore Go.Proofs.Ytjccgdnnnlgeeaa.PA Go.Proofs.Ytjccgdnnnlgeeaa.XMem Go.Proofs.Ytjccgdnnnlgeeaa.XSt Go.Proofs.Ytjccgdnnnlgeeaa.XKn Go.Proofs.Ytjccgdnnnlgeeaa.XQuiet Go.Proofs.Ytjccgdnnnlgeeaa.XFr
open Go.Proofs.Ytjccgdnnnlgeeaa.XSum (Se kSe)
open Go.Proofs.Ytjccgdnnnlgeeaa.XV17 (mayT mayT_iff)
open Go.Proofs.Ytjccgdnnnlgeeaa.XV01 (P)
open Go.Proofs.Ytjccgdnnnlgeeaa.XCrc (sealB openB)
set_option linter.unusedVariables false
set_option linter.unusedSimpArgs false
set_option maxRecDepth 100000
theorem few06 (k : Nat) (f : Fr) (hk : 60 ≤ k) : ∃ b, rollcallref06_Few.f k f.f0 f.f1 f.f2 f.f3 f.f4.f0 f.f4.f1 f.f4.f2 f.f4.f3 f.f5 f.f6 = some b ∧ (b = true → f.f6.length ≤ 40) := by
 unfold rollcallref06_Few.f
 obtain ⟨q, hq, hl⟩ := XV17.fewS_f k f.f6 hk
 rw [hq]
 simp only [Option.bind_some]
 cases q with
 | false => exact ⟨false, rfl, fun h => by cases h⟩
 | true =>
  rw [if_pos rfl]
  split
  ·exact ⟨_, rfl, fun _ => hl rfl⟩
  ·exact ⟨_, rfl, fun _ => hl rfl⟩
/-- What is known of a frame that comes in. -/
def OkF (f : Fr) : Prop := (0 ≤ f.f5 ∧ f.f5 < 18446744073709551616) ∧ f.f3.size ≤ 9223372036854775807 ∧ ∀ x ∈ f.f6, x.f0.size ≤ 9223372036854775807
theorem cut_may {t : List Se} (h : mayT t = true) : mayT (t.take (t.length - 1)) = true := by
 rw [mayT_iff] at h ⊢
 obtain ⟨h1, h2, h3⟩ := h
 exact ⟨by rw [List.length_take]; omega, fun x hx => h2 x (List.mem_of_mem_take hx), List.Pairwise.sublist (List.take_sublist _ _) h3⟩
theorem P_mono {a b : Int} (h0 : 0 ≤ a) (h : a ≤ b) (h1 : b ≤ 127) : (P a).size = (P b).size := by rw [P_one h0 (by omega), P_one (by omega) h1]
theorem cut_size {t : List Se} (h : mayT t = true) (h0 : t.length ≠ 0) : (tB (t.take (t.length - 1))).size < (tB t).size := by
 have hl := (mayT_iff t).1 h
 unfold tB
 rw [XBytes.app_size, XBytes.app_size]
 have e1 : (P ((t.take (t.length - 1)).length : Int)).size = (P (t.length : Int)).size := P_mono (by omega) (by rw [List.length_take]; omega) (by omega)
 have e2 : t = t.take (t.length - 1) ++ [t[t.length - 1]'(by omega)] := by
  conv => lhs; rw [← List.take_append_drop (t.length - 1) t]
  rw [List.drop_eq_getElem_cons (by omega), List.drop_eq_nil_of_le (by omega)]
 have e3 : (XCat.cat (t.map rB)).size = (XCat.cat ((t.take (t.length - 1)).map rB)).size + (rB (t[t.length - 1]'(by omega))).size := by
  conv => lhs; rw [e2]
  rw [List.map_append, XCat.cat_app, XBytes.app_size]
  congr 1
  show (rB _ ++ XCat.cat []).size = _
  rw [show XCat.cat [] = (⟨#[]⟩ : ByteArray) from rfl, XCat.app_nil]
 have e4 : 1 ≤ (rB (t[t.length - 1]'(by omega))).size := by
  rw [rB_size, XCat.X_size]
  have := XV01.P_pos ((t[t.length - 1]'(by omega)).f0.size : Int)
  omega
 omega
theorem cutF {f : Fr} (h : mayF f = true) (h3 : f.f0 = 3) (h0 : f.f6.length ≠ 0) : mayF ⟨f.f0, f.f1, f.f2, f.f3, f.f4, f.f5, f.f6.take (f.f6.length - 1)⟩ = true ∧ (plainF ⟨f.f0, f.f1, f.f2, f.f3, f.f4, f.f5, f.f6.take (f.f6.length - 1)⟩).size < (plainF f).size := by
 obtain ⟨hs, hk⟩ := (mayF_iff f).1 h
 have hm := (body3 hk h3).2
 have hc := cut_may hm
 constructor
 ·rw [mayF_iff]
  refine ⟨hs, ?_⟩
  unfold mayK at hk ⊢
  rw [if_neg (by omega), if_neg (by omega), if_pos h3] at hk
  simp only at hk ⊢
  rw [if_neg (by omega), if_neg (by omega), if_pos h3, hc]
  simp only [Bool.and_eq_true] at hk ⊢
  obtain ⟨a, b, c, d, e⟩ := hk
  exact ⟨a, b, c, d, trivial⟩
 ·have e : ∀ g : Fr, g.f0 = 3 → mayT g.f6 = true → (plainF g).size = (headF g).size + (tB g.f6).size := by
   intro g g3 gm
   unfold plainF bodyF putT
   rw [XBytes.app_size, if_neg (by omega), if_neg (by omega), if_pos g3, if_pos gm]
  rw [e f h3 hm, e ⟨f.f0, f.f1, f.f2, f.f3, f.f4, f.f5, f.f6.take (f.f6.length - 1)⟩ h3 hc, headF_size, headF_size]
  have := cut_size hm h0
  simp only at this ⊢
  omega
theorem plain_two {f : Fr} (h : mayF f = true) : 2 ≤ (plainF f).size ∧ (plainF f).size ≤ 1864 := by
 obtain ⟨_, _, _, h0, h1⟩ := may_body h
 have := plain_le h0 h1
 have h2 := XV01.P_pos f.f1
 refine ⟨?_, this⟩
 unfold plainF
 rw [XBytes.app_size, headF_size]
 omega
set_option maxHeartbeats 8000000 in
theorem frameSizes_go (ok : Nat → Prop) (f : Fr) (A : Option Addr) (c : Nat) (hf : OkF f) (w0 w : World) (S : Kn ok w0 [] nil tt [V kSe (.slice A f.f6.length c) f.f6] w) :
  Calls Try.prog 8 #[.agg #[.int .i64 f.f0, .int .i64 f.f1, .bool f.f2, .string f.f3, .int .i64 f.f4.f0, .int .i64 f.f4.f1, .int .i64 f.f4.f2, .string f.f4.f3, .int .u64 f.f5, .slice A f.f6.length c]] w fun e w' => e = .returned (.bool true) ∧ Below w0.heap.size w0 w' := by
 have HF := Aside0.mk hf
 clear hf
 obtain ⟨b0, hb0, hl0⟩ := few06 100 f (by omega)
 have F0 := Aside0.mk hb0
 have H0 := Aside0.mk hl0
 clear hb0 hl0
 go_enter Try.func8, Try.ntmps8
 go_upto_region 1 with (fail)
 generalize hg : World.alloc _ _ = w1
 replace S := S.new hg
 clear hg
 generalize w.heap.size = p1 at S ⊢
 replace S : Kn ok w0 [(p1, .cells #[.int .i64 f.f0, .int .i64 f.f1, .bool f.f2, .string f.f3, .int .i64 f.f4.f0, .int .i64 f.f4.f1, .int .i64 f.f4.f2, .string f.f4.f3, .int .u64 f.f5, .slice A f.f6.length c] TFr (0, 0))] nil tt [V kSe (.slice A f.f6.length c) f.f6] w1 := S
 have f_0 : w1.cell? ⟨p1, 0, none⟩ = some (.int .i64 f.f0) := S.cell 0 0 rfl rfl
 have f_1 : w1.cell? ⟨p1, 1, none⟩ = some (.int .i64 f.f1) := S.cell 0 1 rfl rfl
 have f_2 : w1.cell? ⟨p1, 2, none⟩ = some (.bool f.f2) := S.cell 0 2 rfl rfl
 have f_3 : w1.cell? ⟨p1, 3, none⟩ = some (.string f.f3) := S.cell 0 3 rfl rfl
 have f_4 : w1.cell? ⟨p1, 4, none⟩ = some (.int .i64 f.f4.f0) := S.cell 0 4 rfl rfl
 have f_5 : w1.cell? ⟨p1, 5, none⟩ = some (.int .i64 f.f4.f1) := S.cell 0 5 rfl rfl
 have f_6 : w1.cell? ⟨p1, 6, none⟩ = some (.int .i64 f.f4.f2) := S.cell 0 6 rfl rfl
 have f_7 : w1.cell? ⟨p1, 7, none⟩ = some (.string f.f4.f3) := S.cell 0 7 rfl rfl
 have f_8 : w1.cell? ⟨p1, 8, none⟩ = some (.int .u64 f.f5) := S.cell 0 8 rfl rfl
 have f_9 : w1.cell? ⟨p1, 9, none⟩ = some (.slice A f.f6.length c) := S.cell 0 9 rfl rfl
 go_wp2_with fail
 refine (rollcallref06_Few.kn 100 F0.out (S.ft 0 rfl)).mono ?_
 rintro e w2 ⟨rfl, hb⟩
 replace S := S.below hb
 clear f_0 f_1 f_2 f_3 f_4 f_5 f_6 f_7 f_8 f_9 hb
 cases b0 with
 | false =>
  go_wp2_with fail
  refine (live_walk w2).mono ?_
  rintro e wl ⟨rfl, bl⟩
  go_wp2
  go_ret
  exact ⟨rfl, below_step S.bel bl⟩
 | true =>
  have LF := Aside0.mk (H0.out rfl)
  clear F0 H0
  have HPE := Aside0.mk (fun (z : World) (v : (V kSe (.slice A f.f6.length c) f.f6).P z (fun _ => True)) => enc_kn (by have := LF.out; omega) HF.out.2.2 HF.out.2.1 HF.out.1 v)
  by_cases hm : mayF f = true
  rotate_left
  ·have e : encF f = (⟨#[]⟩, 1) := by unfold encF; rw [if_neg hm]
   rw [e] at HPE
   clear e hm
   have f_0 : w2.cell? ⟨p1, 0, none⟩ = some (.int .i64 f.f0) := S.cell 0 0 rfl rfl
   have f_1 : w2.cell? ⟨p1, 1, none⟩ = some (.int .i64 f.f1) := S.cell 0 1 rfl rfl
   have f_2 : w2.cell? ⟨p1, 2, none⟩ = some (.bool f.f2) := S.cell 0 2 rfl rfl
   have f_3 : w2.cell? ⟨p1, 3, none⟩ = some (.string f.f3) := S.cell 0 3 rfl rfl
   have f_4 : w2.cell? ⟨p1, 4, none⟩ = some (.int .i64 f.f4.f0) := S.cell 0 4 rfl rfl
   have f_5 : w2.cell? ⟨p1, 5, none⟩ = some (.int .i64 f.f4.f1) := S.cell 0 5 rfl rfl
   have f_6 : w2.cell? ⟨p1, 6, none⟩ = some (.int .i64 f.f4.f2) := S.cell 0 6 rfl rfl
   have f_7 : w2.cell? ⟨p1, 7, none⟩ = some (.string f.f4.f3) := S.cell 0 7 rfl rfl
   have f_8 : w2.cell? ⟨p1, 8, none⟩ = some (.int .u64 f.f5) := S.cell 0 8 rfl rfl
   have f_9 : w2.cell? ⟨p1, 9, none⟩ = some (.slice A f.f6.length c) := S.cell 0 9 rfl rfl
   go_wp2_with fail
   refine (HPE.out _ (Ft.all (S.ft 0 rfl))).mono ?_
   rintro e w3 ⟨rfl, hb⟩
   replace S := S.below hb
   clear f_0 f_1 f_2 f_3 f_4 f_5 f_6 f_7 f_8 f_9 hb HPE
   go_wp2_with fail
   refine (live_walk w3).mono ?_
   rintro e wl ⟨rfl, bl⟩
   go_wp2
   go_ret
   exact ⟨rfl, below_step S.bel bl⟩
  have e : encF f = (sealB (plainF f), 0) := by unfold encF; rw [if_pos hm]
  rw [e] at HPE
  clear e
  have hz := plain_two hm
  have hz2 := sealB_size (plainF f)
  have HMM := Aside0.mk hm
  clear hm
  have HQ := Aside0.mk (rfl : (sealB (plainF f)).size = (sealB (plainF f)).size)
  generalize hq : sealB (plainF f) = q at HPE hz2 HQ
  have HQQ := Aside0.mk hq
  clear hq HQ
  have f_0 : w2.cell? ⟨p1, 0, none⟩ = some (.int .i64 f.f0) := S.cell 0 0 rfl rfl
  have f_1 : w2.cell? ⟨p1, 1, none⟩ = some (.int .i64 f.f1) := S.cell 0 1 rfl rfl
  have f_2 : w2.cell? ⟨p1, 2, none⟩ = some (.bool f.f2) := S.cell 0 2 rfl rfl
  have f_3 : w2.cell? ⟨p1, 3, none⟩ = some (.string f.f3) := S.cell 0 3 rfl rfl
  have f_4 : w2.cell? ⟨p1, 4, none⟩ = some (.int .i64 f.f4.f0) := S.cell 0 4 rfl rfl
  have f_5 : w2.cell? ⟨p1, 5, none⟩ = some (.int .i64 f.f4.f1) := S.cell 0 5 rfl rfl
  have f_6 : w2.cell? ⟨p1, 6, none⟩ = some (.int .i64 f.f4.f2) := S.cell 0 6 rfl rfl
  have f_7 : w2.cell? ⟨p1, 7, none⟩ = some (.string f.f4.f3) := S.cell 0 7 rfl rfl
  have f_8 : w2.cell? ⟨p1, 8, none⟩ = some (.int .u64 f.f5) := S.cell 0 8 rfl rfl
  have f_9 : w2.cell? ⟨p1, 9, none⟩ = some (.slice A f.f6.length c) := S.cell 0 9 rfl rfl
  go_wp2_with fail
  refine (HPE.out _ (Ft.all (S.ft 0 rfl))).mono ?_
  rintro e w3 ⟨rfl, hb⟩
  replace S := S.below hb
  clear f_0 f_1 f_2 f_3 f_4 f_5 f_6 f_7 f_8 f_9 hb HPE
  have g1 : decide ((q.size : Int) > 2000) = false := decide_eq_false (by omega)
  have g1b : decide ((2000 : Int) < (q.size : Int)) = false := decide_eq_false (by omega)
  have g2 : decide ((q.size : Int) < 6) = false := decide_eq_false (by omega)
  have g3 : decide (2000 < q.size) = false := decide_eq_false (by omega)
  have g4 : decide (q.size < 6) = false := decide_eq_false (by omega)
  have g5 : ¬ (2000 < q.size) := by omega
  have g6 : ¬ (q.size < 6) := by omega
  have HZ := Aside0.mk hz2
  clear hz2 hz
  have f_0 : w3.cell? ⟨p1, 0, none⟩ = some (.int .i64 f.f0) := S.cell 0 0 rfl rfl
  have f_9 : w3.cell? ⟨p1, 9, none⟩ = some (.slice A f.f6.length c) := S.cell 0 9 rfl rfl
  by_cases k3 : f.f0 = 3
  rotate_left
  ·have k3b : (f.f0 != 3) = true := bne_iff_ne.mpr k3
   clear k3 HMM
   go_wp2_with fail
   refine (live_walk w3).mono ?_
   rintro e wl ⟨rfl, bl⟩
   go_wp2
   go_ret
   exact ⟨rfl, below_step S.bel bl⟩
  have k3b : (f.f0 != 3) = false := bne_eq_false_iff_eq.mpr k3
  have K3 := Aside0.mk k3
  clear k3
  by_cases l0 : f.f6.length = 0
  ·have l0b : ((f.f6.length : Int) == 0) = true := by rw [l0]; rfl
   clear l0 HMM
   go_wp2_with fail
   refine (live_walk w3).mono ?_
   rintro e wl ⟨rfl, bl⟩
   go_wp2
   go_ret
   exact ⟨rfl, below_step S.bel bl⟩
  have l0b : ((f.f6.length : Int) == 0) = false := by simp; intro h; rw [h] at l0; exact l0 rfl
  obtain ⟨hc1, hc2⟩ := cutF HMM.out K3.out l0
  have hlt : (f.f6.take (f.f6.length - 1)).length = f.f6.length - 1 := by rw [List.length_take]; omega
  have hn1 : IntKind.i64.wrap ((f.f6.length : Int) - 1) = ((f.f6.length - 1 : Nat) : Int) := by have := LF.out; rw [IntKind.wrap_i64]; omega
  have hn0 : (0 : Int) ≤ ((f.f6.length - 1 : Nat) : Int) := by omega
  have hcap : ((f.f6.length - 1 : Nat) : Int) ≤ (c : Int) := by have := (Kd.V_reads' (e := 0) (base := 0) (S.ft 0 rfl)).2.1; omega
  obtain ⟨t', ht'⟩ : ∃ t', t' = f.f6.take (f.f6.length - 1) := ⟨_, rfl⟩
  rw [← ht'] at hc1 hc2 hlt
  obtain ⟨n1, hnn⟩ : ∃ n1, n1 = f.f6.length - 1 := ⟨_, rfl⟩
  rw [← hnn] at hlt hn1 hn0 hcap
  have HCut : ∀ z : World, (V kSe (.slice A f.f6.length c) f.f6).P z (fun _ => True) → (V kSe (.slice A n1 c) t').P z (fun _ => True) := fun z v => by
   have hr := Kd.V_reads' (e := 0) (base := 0) v
   have hC := hr.2.2
   have h1 : Kd.C kSe z A t'.length t' := by rw [ht']; exact Kd.C_take hC (by omega)
   have h2 := Im.of_C kSe_heap (w := z) (A := A) (c := c) (l := t') h1 (by omega)
   rw [hlt] at h2
   exact h2
  have HCE := Aside0.mk (fun (z : World) (v : (V kSe (.slice A n1 c) t').P z (fun _ => True)) => by have h := enc_kn (f := ⟨f.f0, f.f1, f.f2, f.f3, f.f4, f.f5, t'⟩) (A := A) (c := c) (w := z) (ok := fun _ => True) (by show t'.length ≤ 40; have := LF.out; omega) (fun x hx => HF.out.2.2 x (by rw [ht'] at hx; exact List.mem_of_mem_take hx)) HF.out.2.1 HF.out.1 (by show (V kSe (.slice A t'.length c) t').P z _; rw [hlt]; exact v); unfold encF at h; rw [if_pos hc1] at h; simp only [hlt] at h; exact h)
  have hz3 := sealB_size (plainF ⟨f.f0, f.f1, f.f2, f.f3, f.f4, f.f5, t'⟩)
  generalize sealB (plainF ⟨f.f0, f.f1, f.f2, f.f3, f.f4, f.f5, t'⟩) = q2 at HCE hz3
  have hlt2 : decide ((q2.size : Int) < (q.size : Int)) = true := decide_eq_true (by have := HZ.out; omega)
  have hlt3 : decide (q2.size < q.size) = true := decide_eq_true (by have := HZ.out; omega)
  have hlt4 : q2.size < q.size := by have := HZ.out; omega
  clear hc1 hc2 hz3 hlt ht' hnn l0
  clear f_0 f_9
  have f_0 : w3.cell? ⟨p1, 0, none⟩ = some (.int .i64 f.f0) := S.cell 0 0 rfl rfl
  have f_1 : w3.cell? ⟨p1, 1, none⟩ = some (.int .i64 f.f1) := S.cell 0 1 rfl rfl
  have f_2 : w3.cell? ⟨p1, 2, none⟩ = some (.bool f.f2) := S.cell 0 2 rfl rfl
  have f_3 : w3.cell? ⟨p1, 3, none⟩ = some (.string f.f3) := S.cell 0 3 rfl rfl
  have f_4 : w3.cell? ⟨p1, 4, none⟩ = some (.int .i64 f.f4.f0) := S.cell 0 4 rfl rfl
  have f_5 : w3.cell? ⟨p1, 5, none⟩ = some (.int .i64 f.f4.f1) := S.cell 0 5 rfl rfl
  have f_6 : w3.cell? ⟨p1, 6, none⟩ = some (.int .i64 f.f4.f2) := S.cell 0 6 rfl rfl
  have f_7 : w3.cell? ⟨p1, 7, none⟩ = some (.string f.f4.f3) := S.cell 0 7 rfl rfl
  have f_8 : w3.cell? ⟨p1, 8, none⟩ = some (.int .u64 f.f5) := S.cell 0 8 rfl rfl
  have f_9 : w3.cell? ⟨p1, 9, none⟩ = some (.slice A f.f6.length c) := S.cell 0 9 rfl rfl
  go_upto_region 11 with (fail)
  generalize hg : World.alloc _ _ = w4
  replace S := S.new hg
  clear f_0 f_1 f_2 f_3 f_4 f_5 f_6 f_7 f_8 f_9 hg
  generalize w3.heap.size = p5 at S ⊢
  replace S : Kn ok w0 [(p5, .cells #[.int .i64 f.f0, .int .i64 f.f1, .bool f.f2, .string f.f3, .int .i64 f.f4.f0, .int .i64 f.f4.f1, .int .i64 f.f4.f2, .string f.f4.f3, .int .u64 f.f5, .slice A f.f6.length c] TFr (0, 0)), (p1, .cells #[.int .i64 f.f0, .int .i64 f.f1, .bool f.f2, .string f.f3, .int .i64 f.f4.f0, .int .i64 f.f4.f1, .int .i64 f.f4.f2, .string f.f4.f3, .int .u64 f.f5, .slice A f.f6.length c] TFr (0, 0))] nil tt [V kSe (.slice A f.f6.length c) f.f6] w4 := S
  have f_9 : w4.cell? ⟨p1, 9, none⟩ = some (.slice A f.f6.length c) := S.cell 1 9 rfl rfl
  have g_9 : w4.cell? ⟨p5, 9, none⟩ = some (.slice A f.f6.length c) := S.cell 0 9 rfl rfl
  have zg_9 : w4.frozen? ⟨p5, 9, none⟩ = false := S.frozen 0 9 rfl
  go_upto_region 12 with (fail)
  clear f_9 g_9 zg_9
  generalize hg : World.setCell w4 ⟨p5, 9, none⟩ _ = w5
  replace S := S.set 0 hg rfl
  clear hg
  replace S : Kn ok w0 [(p5, .cells #[.int .i64 f.f0, .int .i64 f.f1, .bool f.f2, .string f.f3, .int .i64 f.f4.f0, .int .i64 f.f4.f1, .int .i64 f.f4.f2, .string f.f4.f3, .int .u64 f.f5, .slice A n1 c] TFr (0, 0)), (p1, .cells #[.int .i64 f.f0, .int .i64 f.f1, .bool f.f2, .string f.f3, .int .i64 f.f4.f0, .int .i64 f.f4.f1, .int .i64 f.f4.f2, .string f.f4.f3, .int .u64 f.f5, .slice A f.f6.length c] TFr (0, 0))] nil tt [V kSe (.slice A f.f6.length c) f.f6] w5 := S
  have g_0 : w5.cell? ⟨p5, 0, none⟩ = some (.int .i64 f.f0) := S.cell 0 0 rfl rfl
  have g_1 : w5.cell? ⟨p5, 1, none⟩ = some (.int .i64 f.f1) := S.cell 0 1 rfl rfl
  have g_2 : w5.cell? ⟨p5, 2, none⟩ = some (.bool f.f2) := S.cell 0 2 rfl rfl
  have g_3 : w5.cell? ⟨p5, 3, none⟩ = some (.string f.f3) := S.cell 0 3 rfl rfl
  have g_4 : w5.cell? ⟨p5, 4, none⟩ = some (.int .i64 f.f4.f0) := S.cell 0 4 rfl rfl
  have g_5 : w5.cell? ⟨p5, 5, none⟩ = some (.int .i64 f.f4.f1) := S.cell 0 5 rfl rfl
  have g_6 : w5.cell? ⟨p5, 6, none⟩ = some (.int .i64 f.f4.f2) := S.cell 0 6 rfl rfl
  have g_7 : w5.cell? ⟨p5, 7, none⟩ = some (.string f.f4.f3) := S.cell 0 7 rfl rfl
  have g_8 : w5.cell? ⟨p5, 8, none⟩ = some (.int .u64 f.f5) := S.cell 0 8 rfl rfl
  have g_9 : w5.cell? ⟨p5, 9, none⟩ = some (.slice A n1 c) := S.cell 0 9 rfl rfl
  go_wp2_with fail
  refine (HCE.out _ (HCut _ (Ft.all (S.ft 0 rfl)))).mono ?_
  rintro e w6 ⟨rfl, hb⟩
  replace S := S.below hb
  clear g_0 g_1 g_2 g_3 g_4 g_5 g_6 g_7 g_8 g_9 hb HCE HCut
  go_wp2_with fail
  refine (live_walk _).mono ?_
  rintro e w7 ⟨rfl, hb⟩
  replace S := S.below hb
  clear hb
  go_wp2
  go_ret
  exact ⟨rfl, S.bel⟩
theorem frameSizes_walk (a0 a1 : Int) (a2 : Bool) (a3 : ByteArray) (a4 a5 a6 : Int) (a7 : ByteArray) (a8 : Int) (aA : Option Addr) (ac : Nat) (al : List Se) (w : World) (har : Kd.C kSe w aA al.length al) (hac : al.length ≤ ac) (_a0 : (Lit.int .i64 a0).wf = true) (_a1 : (Lit.int .i64 a1).wf = true) (wa3 : a3.size ≤ maxLen) (_a4 : (Lit.int .i64 a4).wf = true) (_a5 : (Lit.int .i64 a5).wf = true) (_a6 : (Lit.int .i64 a6).wf = true) (_a7 : a7.size ≤ maxLen) (wa8 : (Lit.int .u64 a8).wf = true) (_al : al.length ≤ maxLen) (wal : ∀ y ∈ al, Ok52 y) :
  Calls Try.prog 8 #[.agg #[.int .i64 a0, .int .i64 a1, .bool a2, .string a3, .int .i64 a4, .int .i64 a5, .int .i64 a6, .string a7, .int .u64 a8, .slice aA al.length ac]] w fun e w' => e = .returned (.bool true) ∧ Below w.heap.size w w' :=
 frameSizes_go (fun _ => True) ⟨a0, a1, a2, a3, ⟨a4, a5, a6, a7⟩, a8, al⟩ aA ac (by refine ⟨XBytes.wf_u64 wa8, ?_, fun x hx => ?_⟩; (show a3.size ≤ _; unfold maxLen at wa3; omega); (have := (wal x hx).1; unfold maxLen at this; omega)) w w (Kn.enter _ w (by simp only [List.mem_cons, List.not_mem_nil, or_false]; rintro q rfl; exact Im.of_C kSe_heap har hac))
end Go.Proofs.Ytjccgdnnnlgeeaa.XHand
end
section
-- Written by a program of this session (wip/tools/xprint.py), which drives the kit's print.
namespace Go.Proofs.Ytjccgdnnnlgeeaa.frameSizes
open Go.ChangeShapes Go.WideShapes Go.ChangeAt Go.RowKit Go.Proofs.YtjccgdnnnlgeeaaW.PrintWords Go.Proofs.YtjccgdnnnlgeeaaW.PrintLast Go.Proofs.YtjccgdnnnlgeeaaW.PrintMore Go.Proofs.Ytjccgdnnnlgeeaa.XOpen Go.Proofs.Ytjccgdnnnlgeeaa.PA
open Go.ChangeMaps (open_string shut_string)
set_option linter.unusedVariables false
set_option linter.unusedSimpArgs false
theorem own : ownKnob Try.prog.godebug = none := by kernel_rfl
theorem laidOut : laidOutB Try.prog = true := by kernel_rfl
theorem opens23 : Opens Try.prog 23 k23 Ok23 := Opens.iso (Opens.struct [3, 3, 3, 9] [1, 1, 1, 1] Try.underlying23 (by kernel_rfl) (by kernel_rfl) (by kernel_rfl) (by kernel_rfl) (OpensL.cons (Opens.int Try.underlying3) (OpensL.cons (Opens.int Try.underlying3) (OpensL.cons (Opens.int Try.underlying3) (OpensL.one (Opens.string Try.underlying9)))))) (fun x : S23 => (x.f0, x.f1, x.f2, x.f3)) (fun a => (⟨a.1, a.2.1, a.2.2.1, a.2.2.2⟩ : S23)) (fun _ => rfl)
theorem opens52 : Opens Try.prog 52 k52 Ok52 := Opens.iso (Opens.struct [9, 23] [1, 4] Try.underlying52 (by kernel_rfl) (by kernel_rfl) (by kernel_rfl) (by kernel_rfl) (OpensL.cons (Opens.string Try.underlying9) (OpensL.one opens23))) (fun x : S52 => (x.f0, x.f1)) (fun a => (⟨a.1, a.2⟩ : S52)) (fun _ => rfl)
theorem opens27 : Opens Try.prog 27 k27 Ok27 := Opens.iso (Opens.struct [3, 3, 4, 9, 23, 24, 25] [1, 1, 1, 1, 4, 1, 1] Try.underlying27 (by kernel_rfl) (by kernel_rfl) (by kernel_rfl) (by kernel_rfl) (OpensL.cons (Opens.int Try.underlying3) (OpensL.cons (Opens.int Try.underlying3) (OpensL.cons (Opens.bool Try.underlying4) (OpensL.cons (Opens.string Try.underlying9) (OpensL.cons opens23 (OpensL.cons (Opens.int Try.underlying24) (OpensL.one (Opens.slice Try.underlying25 (by kernel_rfl) z52 opens52))))))))) (fun x : S27 => (x.f0, x.f1, x.f2, x.f3, x.f4, x.f5, x.f6)) (fun a => (⟨a.1, a.2.1, a.2.2.1, a.2.2.2.1, a.2.2.2.2.1, a.2.2.2.2.2.1, a.2.2.2.2.2.2⟩ : S27)) (fun _ => rfl)
set_option maxRecDepth 100000 in
theorem lifted (os : Os) (started : os.Started) (H : Type) (enc : TypeId × Value → H) :
  ReturnsInHanded {} Try.checked os 8 .any (Rows.frameSizesSpec.pre6 enc Try.prog Try.f8 Rows.frameSizesRow.domain false) (Rows.frameSizesSpec.post enc Try.prog Try.f8 false true false false) := by
 refine returnsInHanded_of_change_sized (C := Try.checked) own started (by kernel_rfl) Try.func8
  (ChangeSpec.witness6 (enc := enc) (C := Try.checked) false ⟨#[], #[.agg #[.int .i64 0, .int .i64 0, .bool false, .string ByteArray.empty, .int .i64 0, .int .i64 0, .int .i64 0, .string ByteArray.empty, .int .u64 0, .slice none 0 0]], []⟩ 8 (by kernel_rfl) (by kernel_rfl) (by kernel_rfl) (by kernel_rfl)) ?_
 intro W base args ds gs before hval0 hW hcnd hsz0 _
 have hsz : (DataW.weightsEach Try.prog (Try.f8.params.toList ++ Rows.frameSizesSpec.plain.varTypes Try.prog) (ds ++ gs)).all (· ≤ reachBytes) = true := hsz0
 have hval : ∀ (j : Nat) t v, Try.f8.params[j]? = some t → args[j]? = some v → Value.okWide Try.prog W .any base t v := hval0
 have hW' := hW
 obtain ⟨p, q, hA0, hV, rfl, hfz, hnd⟩ := hW
 have hA : DataW.TrodAll enc Try.prog W 0 (fun _ => true) true Try.f8.params.toList args.toList ds p := hA0
 rw [Try.params8] at hA hval hsz
 obtain ⟨v0, vs0, d0, ds0, p0, q0, hargs, rfl, rfl, h0, r0⟩ := trodAll_cons hA
 obtain ⟨rfl, rfl, rfl⟩ := trodAll_nil r0
 obtain rfl : args = #[v0] := by cases args; simp_all
 obtain ⟨rfl, rfl⟩ := trodVars_none hV
 have k0 := h0
 have lt0 : ∀ x ∈ p0, x.block < W.heap.size := by obtain ⟨m, hm⟩ := k0; exact DataW.trod_lt m _ _ _ hm
 obtain ⟨cs0, rfl, hs0⟩ := okWide_struct Try.underlying27 (hval 0 27 v0 rfl rfl)
 obtain ⟨x0, g0, o0⟩ : ∃ x, k27.K W x cs0.toList ∧ Ok27 x := by
  obtain ⟨fuel, hf⟩ := h0
  exact opens27 enc W 0 _ true fuel _ _ hf
 obtain ⟨A0_9, c0_9, e0, hc0_9, hr0_9⟩ := k27_open g0
 obtain rfl : cs0 = #[.int .i64 x0.f0, .int .i64 x0.f1, .bool x0.f2, .string x0.f3, .int .i64 x0.f4.f0, .int .i64 x0.f4.f1, .int .i64 x0.f4.f2, .string x0.f4.f3, .int .u64 x0.f5, .slice A0_9 (x0.f6).length c0_9] := Array.toList_inj.1 e0
 clear hA0 hval0 hsz0 hsz
 refine (Go.Proofs.Ytjccgdnnnlgeeaa.XHand.frameSizes_walk (x0.f0) (x0.f1) (x0.f2) (x0.f3) (x0.f4.f0) (x0.f4.f1) (x0.f4.f2) (x0.f4.f3) (x0.f5) _ _ (x0.f6) W hr0_9 hc0_9 o0.1 o0.2.1 o0.2.2.2.1 o0.2.2.2.2.1.1 o0.2.2.2.2.1.2.1 o0.2.2.2.2.1.2.2.1 o0.2.2.2.2.1.2.2.2 o0.2.2.2.2.2.1 o0.2.2.2.2.2.2.1 o0.2.2.2.2.2.2.2).mono fun e W' ⟨he, bel⟩ => ?_
 subst he
 exact ⟨_, rfl, _, _, _, [], _, [], hW', trodAll_mk1 (shut_bool Try.underlying4 _), (trodAll_cons_mk (Below.trod laidOut (by kernel_rfl) (of_decide_eq_true (by kernel_rfl)) k0 bel lt0) trodAll_mk0), rfl, bel.frame _, fun h => by cases h⟩
theorem over : Rows.frameSizesRow.holds Try.pinned (OpenSpec.ofChange Rows.frameSizesSpec) :=
 OpenClaim.holds_of_wide 8 Try.f8 rfl rfl rfl rfl rfl rfl rfl ⟨rfl, rfl, rfl, rfl, rfl⟩ rfl rfl rfl rfl rfl (by kernel_rfl) Try.func8 (by kernel_rfl)
  (of_decide_eq_true (by kernel_rfl)) (by unfold Func.isWrapper; first | (rw [if_pos (by decide +kernel)]; kernel_rfl) | (rw [if_neg (by decide +kernel)]; exact ⟨rfl, rfl⟩))
  (fun os started H enc _ => lifted os started H enc)
theorem proved : Rows.FrameSizesSaid := over
#print axioms proved
end Go.Proofs.Ytjccgdnnnlgeeaa.frameSizes
namespace Go.Proofs.Ytjccgdnnnlgeeaa
/-- The row, under a short name, for the claim. -/
theorem frameSizes_holds : Rows.FrameSizesSaid := frameSizes.proved
end Go.Proofs.Ytjccgdnnnlgeeaa
end
