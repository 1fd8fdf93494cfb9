/- law of FrameWrites: the row, by its walk. -/
import Derived.Test.YtjccgdnnnlgeeaaBitesizesbles4
section
/- law06's FrameWrites, walked: whether any frame may be, its bytes, and whether it is another one. -/
namespace Go.Proofs.Ytjccgdnnnlgeeaa.XHand
open Go.RowKit Go.Proofs.YtjccgdnnnlgeeaaW.PrintWords Go.Proofs.YtjccgdnnnlgeeaaW.PrintLast Go.Proofs.YtjccgdnnnlgeeaaW.PrintMore Go.Proofs.Ytjccgdnnnlgeeaa.PA Go.Proofs.Ytjccgdnnnlgeeaa.XMem Go.Proofs.Ytjccgdnnnlgeeaa.XSt Go.Proofs.Ytjccgdnnnlgeeaa.XKn Go.Proofs.Ytjccgdnnnlgeeaa.XQuiet Go.Proofs.Ytjccgdnnnlgeeaa.XFr
open Go.Proofs.Ytjccgdnnnlgeeaa.XSum (Se kSe)
open Go.Proofs.Ytjccgdnnnlgeeaa.XV17 (mayT mayT_iff)
open Go.Proofs.Ytjccgdnnnlgeeaa.XV01 (P)
open Go.Proofs.Ytjccgdnnnlgeeaa.XCrc (sealB openB)
set_option linter.unusedVariables false
set_option linter.unusedSimpArgs false
set_option maxRecDepth 100000
theorem few06 (k : Nat) (f : Fr) (hk : 60 ≤ k) : ∃ b, rollcallref06_Few.f k f.f0 f.f1 f.f2 f.f3 f.f4.f0 f.f4.f1 f.f4.f2 f.f4.f3 f.f5 f.f6 = some b ∧ (b = true → f.f6.length ≤ 40) := by
 unfold rollcallref06_Few.f
 obtain ⟨q, hq, hl⟩ := XV17.fewS_f k f.f6 hk
 rw [hq]
 simp only [Option.bind_some]
 cases q with
 | false => exact ⟨false, rfl, fun h => by cases h⟩
 | true =>
  rw [if_pos rfl]
  split
  ·exact ⟨_, rfl, fun _ => hl rfl⟩
  ·exact ⟨_, rfl, fun _ => hl rfl⟩
/-- What is known of a frame that comes in. -/
def OkF (f : Fr) : Prop := (0 ≤ f.f5 ∧ f.f5 < 18446744073709551616) ∧ f.f3.size ≤ 9223372036854775807 ∧ ∀ x ∈ f.f6, x.f0.size ≤ 9223372036854775807
set_option maxHeartbeats 8000000 in
theorem frameWrites_go (ok : Nat → Prop) (f g : Fr) (A B : Option Addr) (c d : Nat) (hf : OkF f) (hg : OkF g) (w0 w : World) (S : Kn ok w0 [] nil tt [V kSe (.slice B g.f6.length d) g.f6, V kSe (.slice A f.f6.length c) f.f6] w) :
  Calls Try.prog 3 #[.agg #[.int .i64 f.f0, .int .i64 f.f1, .bool f.f2, .string f.f3, .int .i64 f.f4.f0, .int .i64 f.f4.f1, .int .i64 f.f4.f2, .string f.f4.f3, .int .u64 f.f5, .slice A f.f6.length c], .agg #[.int .i64 g.f0, .int .i64 g.f1, .bool g.f2, .string g.f3, .int .i64 g.f4.f0, .int .i64 g.f4.f1, .int .i64 g.f4.f2, .string g.f4.f3, .int .u64 g.f5, .slice B g.f6.length d]] w fun e w' => e = .returned (.bool true) ∧ Below w0.heap.size w0 w' := by
 have HF := Aside0.mk hf
 have HG := Aside0.mk hg
 clear hf hg
 obtain ⟨b0, hb0, hl0⟩ := few06 100 f (by omega)
 obtain ⟨b1, hb1, hl1⟩ := few06 100 g (by omega)
 have F0 := Aside0.mk hb0
 have F1 := Aside0.mk hb1
 have H0 := Aside0.mk hl0
 have H1 := Aside0.mk hl1
 clear hb0 hb1 hl0 hl1
 go_enter Try.func3, Try.ntmps3
 go_upto_region 1 with (fail)
 generalize hg : World.alloc _ _ = w1
 replace S := S.new2 hg
 clear hg
 generalize w.heap.size + 1 = p3 at S ⊢
 generalize w.heap.size = p2 at S ⊢
 replace S : Kn ok w0 [(p3, .cells #[.int .i64 g.f0, .int .i64 g.f1, .bool g.f2, .string g.f3, .int .i64 g.f4.f0, .int .i64 g.f4.f1, .int .i64 g.f4.f2, .string g.f4.f3, .int .u64 g.f5, .slice B g.f6.length d] TFr (0, 0)), (p2, .cells #[.int .i64 f.f0, .int .i64 f.f1, .bool f.f2, .string f.f3, .int .i64 f.f4.f0, .int .i64 f.f4.f1, .int .i64 f.f4.f2, .string f.f4.f3, .int .u64 f.f5, .slice A f.f6.length c] TFr (0, 0))] nil tt [V kSe (.slice B g.f6.length d) g.f6, V kSe (.slice A f.f6.length c) f.f6] w1 := S
 have f_0 : w1.cell? ⟨p2, 0, none⟩ = some (.int .i64 f.f0) := S.cell 1 0 rfl rfl
 have f_1 : w1.cell? ⟨p2, 1, none⟩ = some (.int .i64 f.f1) := S.cell 1 1 rfl rfl
 have f_2 : w1.cell? ⟨p2, 2, none⟩ = some (.bool f.f2) := S.cell 1 2 rfl rfl
 have f_3 : w1.cell? ⟨p2, 3, none⟩ = some (.string f.f3) := S.cell 1 3 rfl rfl
 have f_4 : w1.cell? ⟨p2, 4, none⟩ = some (.int .i64 f.f4.f0) := S.cell 1 4 rfl rfl
 have f_5 : w1.cell? ⟨p2, 5, none⟩ = some (.int .i64 f.f4.f1) := S.cell 1 5 rfl rfl
 have f_6 : w1.cell? ⟨p2, 6, none⟩ = some (.int .i64 f.f4.f2) := S.cell 1 6 rfl rfl
 have f_7 : w1.cell? ⟨p2, 7, none⟩ = some (.string f.f4.f3) := S.cell 1 7 rfl rfl
 have f_8 : w1.cell? ⟨p2, 8, none⟩ = some (.int .u64 f.f5) := S.cell 1 8 rfl rfl
 have f_9 : w1.cell? ⟨p2, 9, none⟩ = some (.slice A f.f6.length c) := S.cell 1 9 rfl rfl
 go_wp2_with fail
 refine (rollcallref06_Few.kn 100 F0.out (S.ft 1 rfl)).mono ?_
 rintro e w2 ⟨rfl, hb⟩
 replace S := S.below hb
 clear f_0 f_1 f_2 f_3 f_4 f_5 f_6 f_7 f_8 f_9 hb
 cases b0 with
 | false =>
  go_wp2_with fail
  refine (live_walk w2).mono ?_
  rintro e wl ⟨rfl, bl⟩
  go_wp2
  go_ret
  exact ⟨rfl, below_step S.bel bl⟩
 | true =>
  have LF := Aside0.mk (H0.out rfl)
  clear F0 H0
  have g_0 : w2.cell? ⟨p3, 0, none⟩ = some (.int .i64 g.f0) := S.cell 0 0 rfl rfl
  have g_1 : w2.cell? ⟨p3, 1, none⟩ = some (.int .i64 g.f1) := S.cell 0 1 rfl rfl
  have g_2 : w2.cell? ⟨p3, 2, none⟩ = some (.bool g.f2) := S.cell 0 2 rfl rfl
  have g_3 : w2.cell? ⟨p3, 3, none⟩ = some (.string g.f3) := S.cell 0 3 rfl rfl
  have g_4 : w2.cell? ⟨p3, 4, none⟩ = some (.int .i64 g.f4.f0) := S.cell 0 4 rfl rfl
  have g_5 : w2.cell? ⟨p3, 5, none⟩ = some (.int .i64 g.f4.f1) := S.cell 0 5 rfl rfl
  have g_6 : w2.cell? ⟨p3, 6, none⟩ = some (.int .i64 g.f4.f2) := S.cell 0 6 rfl rfl
  have g_7 : w2.cell? ⟨p3, 7, none⟩ = some (.string g.f4.f3) := S.cell 0 7 rfl rfl
  have g_8 : w2.cell? ⟨p3, 8, none⟩ = some (.int .u64 g.f5) := S.cell 0 8 rfl rfl
  have g_9 : w2.cell? ⟨p3, 9, none⟩ = some (.slice B g.f6.length d) := S.cell 0 9 rfl rfl
  go_wp2_with fail
  refine (rollcallref06_Few.kn 100 F1.out (S.ft 0 rfl)).mono ?_
  rintro e w3 ⟨rfl, hb⟩
  replace S := S.below hb
  clear g_0 g_1 g_2 g_3 g_4 g_5 g_6 g_7 g_8 g_9 hb
  cases b1 with
  | false =>
   go_wp2_with fail
   refine (live_walk w3).mono ?_
   rintro e wl ⟨rfl, bl⟩
   go_wp2
   go_ret
   exact ⟨rfl, below_step S.bel bl⟩
  | true =>
   clear F1 H1
   have HE := Aside0.mk (refEnc_b 3000 f LF.out (by omega))
   have HM := Aside0.mk (refMayF_b 300 f (by omega))
   obtain ⟨r, hr, hri⟩ := sameF_b 1000 f g (by have := LF.out; omega) (by have := LF.out; omega)
   obtain ⟨r', hr', hri'⟩ := refSameF_b 1000 f g (by have := LF.out; omega) (by have := LF.out; omega)
   obtain rfl : r = r' := by rw [Bool.eq_iff_iff, hri, hri']
   have HR := Aside0.mk hr
   have HR' := Aside0.mk hr'
   clear hr hri hr' hri'
   have HPE := Aside0.mk (fun (z : World) (v : (V kSe (.slice A f.f6.length c) f.f6).P z (fun _ => True)) => enc_kn (by have := LF.out; omega) HF.out.2.2 HF.out.2.1 HF.out.1 v)
   have HPM := Aside0.mk (fun (z : World) (v : (V kSe (.slice A f.f6.length c) f.f6).P z (fun _ => True)) => may_kn (by have := LF.out; omega) HF.out.2.2 HF.out.2.1 HF.out.1 v)
   generalize encF f = E at HE HPE
   generalize mayF f = m at HM HPM
   obtain ⟨x1, x2⟩ := E
   dsimp only at HE HPE
   have f_0 : w3.cell? ⟨p2, 0, none⟩ = some (.int .i64 f.f0) := S.cell 1 0 rfl rfl
   have f_1 : w3.cell? ⟨p2, 1, none⟩ = some (.int .i64 f.f1) := S.cell 1 1 rfl rfl
   have f_2 : w3.cell? ⟨p2, 2, none⟩ = some (.bool f.f2) := S.cell 1 2 rfl rfl
   have f_3 : w3.cell? ⟨p2, 3, none⟩ = some (.string f.f3) := S.cell 1 3 rfl rfl
   have f_4 : w3.cell? ⟨p2, 4, none⟩ = some (.int .i64 f.f4.f0) := S.cell 1 4 rfl rfl
   have f_5 : w3.cell? ⟨p2, 5, none⟩ = some (.int .i64 f.f4.f1) := S.cell 1 5 rfl rfl
   have f_6 : w3.cell? ⟨p2, 6, none⟩ = some (.int .i64 f.f4.f2) := S.cell 1 6 rfl rfl
   have f_7 : w3.cell? ⟨p2, 7, none⟩ = some (.string f.f4.f3) := S.cell 1 7 rfl rfl
   have f_8 : w3.cell? ⟨p2, 8, none⟩ = some (.int .u64 f.f5) := S.cell 1 8 rfl rfl
   have f_9 : w3.cell? ⟨p2, 9, none⟩ = some (.slice A f.f6.length c) := S.cell 1 9 rfl rfl
   go_wp2_with fail
   refine (HPE.out _ (Ft.all (S.ft 1 rfl))).mono ?_
   rintro e w4 ⟨rfl, hb⟩
   replace S := S.below hb
   clear f_0 f_1 f_2 f_3 f_4 f_5 f_6 f_7 f_8 f_9 hb HPE
   have f_0 : w4.cell? ⟨p2, 0, none⟩ = some (.int .i64 f.f0) := S.cell 1 0 rfl rfl
   have f_1 : w4.cell? ⟨p2, 1, none⟩ = some (.int .i64 f.f1) := S.cell 1 1 rfl rfl
   have f_2 : w4.cell? ⟨p2, 2, none⟩ = some (.bool f.f2) := S.cell 1 2 rfl rfl
   have f_3 : w4.cell? ⟨p2, 3, none⟩ = some (.string f.f3) := S.cell 1 3 rfl rfl
   have f_4 : w4.cell? ⟨p2, 4, none⟩ = some (.int .i64 f.f4.f0) := S.cell 1 4 rfl rfl
   have f_5 : w4.cell? ⟨p2, 5, none⟩ = some (.int .i64 f.f4.f1) := S.cell 1 5 rfl rfl
   have f_6 : w4.cell? ⟨p2, 6, none⟩ = some (.int .i64 f.f4.f2) := S.cell 1 6 rfl rfl
   have f_7 : w4.cell? ⟨p2, 7, none⟩ = some (.string f.f4.f3) := S.cell 1 7 rfl rfl
   have f_8 : w4.cell? ⟨p2, 8, none⟩ = some (.int .u64 f.f5) := S.cell 1 8 rfl rfl
   have f_9 : w4.cell? ⟨p2, 9, none⟩ = some (.slice A f.f6.length c) := S.cell 1 9 rfl rfl
   go_wp2_with fail
   refine (rollcallref06_Encode.kn 3000 HE.out (S.ft 1 rfl)).mono ?_
   rintro e w5 ⟨rfl, hb⟩
   replace S := S.below hb
   clear f_0 f_1 f_2 f_3 f_4 f_5 f_6 f_7 f_8 f_9 hb HE
   go_upto_region 5 with (fail)
   have f_0 : w5.cell? ⟨p2, 0, none⟩ = some (.int .i64 f.f0) := S.cell 1 0 rfl rfl
   have f_1 : w5.cell? ⟨p2, 1, none⟩ = some (.int .i64 f.f1) := S.cell 1 1 rfl rfl
   have f_2 : w5.cell? ⟨p2, 2, none⟩ = some (.bool f.f2) := S.cell 1 2 rfl rfl
   have f_3 : w5.cell? ⟨p2, 3, none⟩ = some (.string f.f3) := S.cell 1 3 rfl rfl
   have f_4 : w5.cell? ⟨p2, 4, none⟩ = some (.int .i64 f.f4.f0) := S.cell 1 4 rfl rfl
   have f_5 : w5.cell? ⟨p2, 5, none⟩ = some (.int .i64 f.f4.f1) := S.cell 1 5 rfl rfl
   have f_6 : w5.cell? ⟨p2, 6, none⟩ = some (.int .i64 f.f4.f2) := S.cell 1 6 rfl rfl
   have f_7 : w5.cell? ⟨p2, 7, none⟩ = some (.string f.f4.f3) := S.cell 1 7 rfl rfl
   have f_8 : w5.cell? ⟨p2, 8, none⟩ = some (.int .u64 f.f5) := S.cell 1 8 rfl rfl
   have f_9 : w5.cell? ⟨p2, 9, none⟩ = some (.slice A f.f6.length c) := S.cell 1 9 rfl rfl
   have Yf_0 : ∀ u : Kin w5, u.at'.cell? ⟨p2, 0, none⟩ = some (.int .i64 f.f0) := Kin.cell f_0
   have Yf_1 : ∀ u : Kin w5, u.at'.cell? ⟨p2, 1, none⟩ = some (.int .i64 f.f1) := Kin.cell f_1
   have Yf_2 : ∀ u : Kin w5, u.at'.cell? ⟨p2, 2, none⟩ = some (.bool f.f2) := Kin.cell f_2
   have Yf_3 : ∀ u : Kin w5, u.at'.cell? ⟨p2, 3, none⟩ = some (.string f.f3) := Kin.cell f_3
   have Yf_4 : ∀ u : Kin w5, u.at'.cell? ⟨p2, 4, none⟩ = some (.int .i64 f.f4.f0) := Kin.cell f_4
   have Yf_5 : ∀ u : Kin w5, u.at'.cell? ⟨p2, 5, none⟩ = some (.int .i64 f.f4.f1) := Kin.cell f_5
   have Yf_6 : ∀ u : Kin w5, u.at'.cell? ⟨p2, 6, none⟩ = some (.int .i64 f.f4.f2) := Kin.cell f_6
   have Yf_7 : ∀ u : Kin w5, u.at'.cell? ⟨p2, 7, none⟩ = some (.string f.f4.f3) := Kin.cell f_7
   have Yf_8 : ∀ u : Kin w5, u.at'.cell? ⟨p2, 8, none⟩ = some (.int .u64 f.f5) := Kin.cell f_8
   have Yf_9 : ∀ u : Kin w5, u.at'.cell? ⟨p2, 9, none⟩ = some (.slice A f.f6.length c) := Kin.cell f_9
   have g_0 : w5.cell? ⟨p3, 0, none⟩ = some (.int .i64 g.f0) := S.cell 0 0 rfl rfl
   have g_1 : w5.cell? ⟨p3, 1, none⟩ = some (.int .i64 g.f1) := S.cell 0 1 rfl rfl
   have g_2 : w5.cell? ⟨p3, 2, none⟩ = some (.bool g.f2) := S.cell 0 2 rfl rfl
   have g_3 : w5.cell? ⟨p3, 3, none⟩ = some (.string g.f3) := S.cell 0 3 rfl rfl
   have g_4 : w5.cell? ⟨p3, 4, none⟩ = some (.int .i64 g.f4.f0) := S.cell 0 4 rfl rfl
   have g_5 : w5.cell? ⟨p3, 5, none⟩ = some (.int .i64 g.f4.f1) := S.cell 0 5 rfl rfl
   have g_6 : w5.cell? ⟨p3, 6, none⟩ = some (.int .i64 g.f4.f2) := S.cell 0 6 rfl rfl
   have g_7 : w5.cell? ⟨p3, 7, none⟩ = some (.string g.f4.f3) := S.cell 0 7 rfl rfl
   have g_8 : w5.cell? ⟨p3, 8, none⟩ = some (.int .u64 g.f5) := S.cell 0 8 rfl rfl
   have g_9 : w5.cell? ⟨p3, 9, none⟩ = some (.slice B g.f6.length d) := S.cell 0 9 rfl rfl
   have Yg_0 : ∀ u : Kin w5, u.at'.cell? ⟨p3, 0, none⟩ = some (.int .i64 g.f0) := Kin.cell g_0
   have Yg_1 : ∀ u : Kin w5, u.at'.cell? ⟨p3, 1, none⟩ = some (.int .i64 g.f1) := Kin.cell g_1
   have Yg_2 : ∀ u : Kin w5, u.at'.cell? ⟨p3, 2, none⟩ = some (.bool g.f2) := Kin.cell g_2
   have Yg_3 : ∀ u : Kin w5, u.at'.cell? ⟨p3, 3, none⟩ = some (.string g.f3) := Kin.cell g_3
   have Yg_4 : ∀ u : Kin w5, u.at'.cell? ⟨p3, 4, none⟩ = some (.int .i64 g.f4.f0) := Kin.cell g_4
   have Yg_5 : ∀ u : Kin w5, u.at'.cell? ⟨p3, 5, none⟩ = some (.int .i64 g.f4.f1) := Kin.cell g_5
   have Yg_6 : ∀ u : Kin w5, u.at'.cell? ⟨p3, 6, none⟩ = some (.int .i64 g.f4.f2) := Kin.cell g_6
   have Yg_7 : ∀ u : Kin w5, u.at'.cell? ⟨p3, 7, none⟩ = some (.string g.f4.f3) := Kin.cell g_7
   have Yg_8 : ∀ u : Kin w5, u.at'.cell? ⟨p3, 8, none⟩ = some (.int .u64 g.f5) := Kin.cell g_8
   have Yg_9 : ∀ u : Kin w5, u.at'.cell? ⟨p3, 9, none⟩ = some (.slice B g.f6.length d) := Kin.cell g_9
   have HVF : ∀ u : Kin w5, (V kSe (.slice A f.f6.length c) f.f6).P u.at' (fun _ => True) := fun u => Ft.below (Ft.all (S.ft 1 rfl)) u.bel
   have HVG : ∀ u : Kin w5, (V kSe (.slice B g.f6.length d) g.f6).P u.at' (fun _ => True) := fun u => Ft.below (Ft.all (S.ft 0 rfl)) u.bel
   have t1 : (x1.toList == x1.toList) = true := by simp
   have t2 : (m == m) = true := by simp
   have t3 : (r == r) = true := by simp
   have t4 : (x2 == x2) = true := by simp
   go_wp2_with fail
   refine region_kin (by kernel_rfl) (by kernel_rfl) ?_
   repeat (go_big_quiet_step (first | (go_at_call 13; exact Kin.call (HPM.out _ (HVF _))) | (go_at_call 14; exact Kin.call (rollcallref06_May.kn 300 HM.out (HVF _))) | (go_at_call 15; exact Kin.call (frame_Same.kn 1000 HR.out (HVF _) (HVG _))) | (go_at_call 16; exact Kin.call (rollcallref06_Same.kn 1000 HR'.out (HVF _) (HVG _))) | (go_at_call 10; exact Kin.call (live_walk _)) | fail))
   refine wpQuiet_nil ?_
   rintro w6 ⟨⟨_, hb⟩, rfl⟩
   replace S := S.below hb
   clear f_0 f_1 f_2 f_3 f_4 f_5 f_6 f_7 f_8 f_9 g_0 g_1 g_2 g_3 g_4 g_5 g_6 g_7 g_8 g_9 hb
   go_wp2
   go_ret
   exact ⟨rfl, S.bel⟩
theorem frameWrites_walk (a0 a1 : Int) (a2 : Bool) (a3 : ByteArray) (a4 a5 a6 : Int) (a7 : ByteArray) (a8 : Int) (aA : Option Addr) (ac : Nat) (al : List Se) (b0 b1 : Int) (b2 : Bool) (b3 : ByteArray) (b4 b5 b6 : Int) (b7 : ByteArray) (b8 : Int) (bA : Option Addr) (bc : Nat) (bl : List Se) (w : World) (har : Kd.C kSe w aA al.length al) (hac : al.length ≤ ac) (hbr : Kd.C kSe w bA bl.length bl) (hbc : bl.length ≤ bc) (_a0 : (Lit.int .i64 a0).wf = true) (_a1 : (Lit.int .i64 a1).wf = true) (wa3 : a3.size ≤ maxLen) (_a4 : (Lit.int .i64 a4).wf = true) (_a5 : (Lit.int .i64 a5).wf = true) (_a6 : (Lit.int .i64 a6).wf = true) (_a7 : a7.size ≤ maxLen) (wa8 : (Lit.int .u64 a8).wf = true) (_al : al.length ≤ maxLen) (wal : ∀ y ∈ al, Ok52 y) (_b0 : (Lit.int .i64 b0).wf = true) (_b1 : (Lit.int .i64 b1).wf = true) (wb3 : b3.size ≤ maxLen) (_b4 : (Lit.int .i64 b4).wf = true) (_b5 : (Lit.int .i64 b5).wf = true) (_b6 : (Lit.int .i64 b6).wf = true) (_b7 : b7.size ≤ maxLen) (wb8 : (Lit.int .u64 b8).wf = true) (_bl : bl.length ≤ maxLen) (wbl : ∀ y ∈ bl, Ok52 y) :
  Calls Try.prog 3 #[.agg #[.int .i64 a0, .int .i64 a1, .bool a2, .string a3, .int .i64 a4, .int .i64 a5, .int .i64 a6, .string a7, .int .u64 a8, .slice aA al.length ac], .agg #[.int .i64 b0, .int .i64 b1, .bool b2, .string b3, .int .i64 b4, .int .i64 b5, .int .i64 b6, .string b7, .int .u64 b8, .slice bA bl.length bc]] w fun e w' => e = .returned (.bool true) ∧ Below w.heap.size w w' :=
 frameWrites_go (fun _ => True) ⟨a0, a1, a2, a3, ⟨a4, a5, a6, a7⟩, a8, al⟩ ⟨b0, b1, b2, b3, ⟨b4, b5, b6, b7⟩, b8, bl⟩ aA bA ac bc (by refine ⟨XBytes.wf_u64 wa8, ?_, fun x hx => ?_⟩; (show a3.size ≤ _; unfold maxLen at wa3; omega); (have := (wal x hx).1; unfold maxLen at this; omega)) (by refine ⟨XBytes.wf_u64 wb8, ?_, fun x hx => ?_⟩; (show b3.size ≤ _; unfold maxLen at wb3; omega); (have := (wbl x hx).1; unfold maxLen at this; omega)) w w (Kn.enter _ w (by simp only [List.mem_cons, List.not_mem_nil, or_false]; rintro q (rfl | rfl); exact Im.of_C kSe_heap hbr hbc; exact Im.of_C kSe_heap har hac))
end Go.Proofs.Ytjccgdnnnlgeeaa.XHand
end
section
-- Written by a program of this session (wip/tools/xprint.py), which drives the kit's print.
namespace Go.Proofs.Ytjccgdnnnlgeeaa.frameWrites
open Go.ChangeShapes Go.WideShapes Go.ChangeAt Go.RowKit Go.Proofs.YtjccgdnnnlgeeaaW.PrintWords Go.Proofs.YtjccgdnnnlgeeaaW.PrintLast Go.Proofs.YtjccgdnnnlgeeaaW.PrintMore Go.Proofs.Ytjccgdnnnlgeeaa.XOpen Go.Proofs.Ytjccgdnnnlgeeaa.PA
open Go.ChangeMaps (open_string shut_string)
set_option linter.unusedVariables false
set_option linter.unusedSimpArgs false
theorem own : ownKnob Try.prog.godebug = none := by kernel_rfl
theorem laidOut : laidOutB Try.prog = true := by kernel_rfl
theorem opens23 : Opens Try.prog 23 k23 Ok23 := Opens.iso (Opens.struct [3, 3, 3, 9] [1, 1, 1, 1] Try.underlying23 (by kernel_rfl) (by kernel_rfl) (by kernel_rfl) (by kernel_rfl) (OpensL.cons (Opens.int Try.underlying3) (OpensL.cons (Opens.int Try.underlying3) (OpensL.cons (Opens.int Try.underlying3) (OpensL.one (Opens.string Try.underlying9)))))) (fun x : S23 => (x.f0, x.f1, x.f2, x.f3)) (fun a => (⟨a.1, a.2.1, a.2.2.1, a.2.2.2⟩ : S23)) (fun _ => rfl)
theorem opens52 : Opens Try.prog 52 k52 Ok52 := Opens.iso (Opens.struct [9, 23] [1, 4] Try.underlying52 (by kernel_rfl) (by kernel_rfl) (by kernel_rfl) (by kernel_rfl) (OpensL.cons (Opens.string Try.underlying9) (OpensL.one opens23))) (fun x : S52 => (x.f0, x.f1)) (fun a => (⟨a.1, a.2⟩ : S52)) (fun _ => rfl)
theorem opens27 : Opens Try.prog 27 k27 Ok27 := Opens.iso (Opens.struct [3, 3, 4, 9, 23, 24, 25] [1, 1, 1, 1, 4, 1, 1] Try.underlying27 (by kernel_rfl) (by kernel_rfl) (by kernel_rfl) (by kernel_rfl) (OpensL.cons (Opens.int Try.underlying3) (OpensL.cons (Opens.int Try.underlying3) (OpensL.cons (Opens.bool Try.underlying4) (OpensL.cons (Opens.string Try.underlying9) (OpensL.cons opens23 (OpensL.cons (Opens.int Try.underlying24) (OpensL.one (Opens.slice Try.underlying25 (by kernel_rfl) z52 opens52))))))))) (fun x : S27 => (x.f0, x.f1, x.f2, x.f3, x.f4, x.f5, x.f6)) (fun a => (⟨a.1, a.2.1, a.2.2.1, a.2.2.2.1, a.2.2.2.2.1, a.2.2.2.2.2.1, a.2.2.2.2.2.2⟩ : S27)) (fun _ => rfl)
set_option maxRecDepth 100000 in
theorem lifted (os : Os) (started : os.Started) (H : Type) (enc : TypeId × Value → H) :
  ReturnsInHanded {} Try.checked os 3 .any (Rows.frameWritesSpec.pre6 enc Try.prog Try.f3 Rows.frameWritesRow.domain false) (Rows.frameWritesSpec.post enc Try.prog Try.f3 false true false false) := by
 refine returnsInHanded_of_change_sized (C := Try.checked) own started (by kernel_rfl) Try.func3
  (ChangeSpec.witness6 (enc := enc) (C := Try.checked) false ⟨#[], #[.agg #[.int .i64 0, .int .i64 0, .bool false, .string ByteArray.empty, .int .i64 0, .int .i64 0, .int .i64 0, .string ByteArray.empty, .int .u64 0, .slice none 0 0], .agg #[.int .i64 0, .int .i64 0, .bool false, .string ByteArray.empty, .int .i64 0, .int .i64 0, .int .i64 0, .string ByteArray.empty, .int .u64 0, .slice none 0 0]], []⟩ 8 (by kernel_rfl) (by kernel_rfl) (by kernel_rfl) (by kernel_rfl)) ?_
 intro W base args ds gs before hval0 hW hcnd hsz0 _
 have hsz : (DataW.weightsEach Try.prog (Try.f3.params.toList ++ Rows.frameWritesSpec.plain.varTypes Try.prog) (ds ++ gs)).all (· ≤ reachBytes) = true := hsz0
 have hval : ∀ (j : Nat) t v, Try.f3.params[j]? = some t → args[j]? = some v → Value.okWide Try.prog W .any base t v := hval0
 have hW' := hW
 obtain ⟨p, q, hA0, hV, rfl, hfz, hnd⟩ := hW
 have hA : DataW.TrodAll enc Try.prog W 0 (fun _ => true) true Try.f3.params.toList args.toList ds p := hA0
 rw [Try.params3] at hA hval hsz
 obtain ⟨v0, vs0, d0, ds0, p0, q0, hargs, rfl, rfl, h0, r0⟩ := trodAll_cons hA
 obtain ⟨v1, vs1, d1, ds1, p1, q1, rfl, rfl, rfl, h1, r1⟩ := trodAll_cons r0
 obtain ⟨rfl, rfl, rfl⟩ := trodAll_nil r1
 obtain rfl : args = #[v0, v1] := by cases args; simp_all
 obtain ⟨rfl, rfl⟩ := trodVars_none hV
 have k0 := h0
 have lt0 : ∀ x ∈ p0, x.block < W.heap.size := by obtain ⟨m, hm⟩ := k0; exact DataW.trod_lt m _ _ _ hm
 obtain ⟨cs0, rfl, hs0⟩ := okWide_struct Try.underlying27 (hval 0 27 v0 rfl rfl)
 obtain ⟨x0, g0, o0⟩ : ∃ x, k27.K W x cs0.toList ∧ Ok27 x := by
  obtain ⟨fuel, hf⟩ := h0
  exact opens27 enc W 0 _ true fuel _ _ hf
 obtain ⟨A0_9, c0_9, e0, hc0_9, hr0_9⟩ := k27_open g0
 obtain rfl : cs0 = #[.int .i64 x0.f0, .int .i64 x0.f1, .bool x0.f2, .string x0.f3, .int .i64 x0.f4.f0, .int .i64 x0.f4.f1, .int .i64 x0.f4.f2, .string x0.f4.f3, .int .u64 x0.f5, .slice A0_9 (x0.f6).length c0_9] := Array.toList_inj.1 e0
 have k1 := h1
 have lt1 : ∀ x ∈ p1, x.block < W.heap.size := by obtain ⟨m, hm⟩ := k1; exact DataW.trod_lt m _ _ _ hm
 obtain ⟨cs1, rfl, hs1⟩ := okWide_struct Try.underlying27 (hval 1 27 v1 rfl rfl)
 obtain ⟨x1, g1, o1⟩ : ∃ x, k27.K W x cs1.toList ∧ Ok27 x := by
  obtain ⟨fuel, hf⟩ := h1
  exact opens27 enc W 0 _ true fuel _ _ hf
 obtain ⟨A1_9, c1_9, e1, hc1_9, hr1_9⟩ := k27_open g1
 obtain rfl : cs1 = #[.int .i64 x1.f0, .int .i64 x1.f1, .bool x1.f2, .string x1.f3, .int .i64 x1.f4.f0, .int .i64 x1.f4.f1, .int .i64 x1.f4.f2, .string x1.f4.f3, .int .u64 x1.f5, .slice A1_9 (x1.f6).length c1_9] := Array.toList_inj.1 e1
 clear hA0 hval0 hsz0 hsz
 refine (Go.Proofs.Ytjccgdnnnlgeeaa.XHand.frameWrites_walk (x0.f0) (x0.f1) (x0.f2) (x0.f3) (x0.f4.f0) (x0.f4.f1) (x0.f4.f2) (x0.f4.f3) (x0.f5) _ _ (x0.f6) (x1.f0) (x1.f1) (x1.f2) (x1.f3) (x1.f4.f0) (x1.f4.f1) (x1.f4.f2) (x1.f4.f3) (x1.f5) _ _ (x1.f6) W hr0_9 hc0_9 hr1_9 hc1_9 o0.1 o0.2.1 o0.2.2.2.1 o0.2.2.2.2.1.1 o0.2.2.2.2.1.2.1 o0.2.2.2.2.1.2.2.1 o0.2.2.2.2.1.2.2.2 o0.2.2.2.2.2.1 o0.2.2.2.2.2.2.1 o0.2.2.2.2.2.2.2 o1.1 o1.2.1 o1.2.2.2.1 o1.2.2.2.2.1.1 o1.2.2.2.2.1.2.1 o1.2.2.2.2.1.2.2.1 o1.2.2.2.2.1.2.2.2 o1.2.2.2.2.2.1 o1.2.2.2.2.2.2.1 o1.2.2.2.2.2.2.2).mono fun e W' ⟨he, bel⟩ => ?_
 subst he
 exact ⟨_, rfl, _, _, _, [], _, [], hW', trodAll_mk1 (shut_bool Try.underlying4 _), (trodAll_cons_mk (Below.trod laidOut (by kernel_rfl) (of_decide_eq_true (by kernel_rfl)) k0 bel lt0) (trodAll_cons_mk (Below.trod laidOut (by kernel_rfl) (of_decide_eq_true (by kernel_rfl)) k1 bel lt1) trodAll_mk0)), rfl, bel.frame _, fun h => by cases h⟩
theorem over : Rows.frameWritesRow.holds Try.pinned (OpenSpec.ofChange Rows.frameWritesSpec) :=
 OpenClaim.holds_of_wide 3 Try.f3 rfl rfl rfl rfl rfl rfl rfl ⟨rfl, rfl, rfl, rfl, rfl⟩ rfl rfl rfl rfl rfl (by kernel_rfl) Try.func3 (by kernel_rfl)
  (of_decide_eq_true (by kernel_rfl)) (by unfold Func.isWrapper; first | (rw [if_pos (by decide +kernel)]; kernel_rfl) | (rw [if_neg (by decide +kernel)]; exact ⟨rfl, rfl⟩))
  (fun os started H enc _ => lifted os started H enc)
theorem proved : Rows.FrameWritesSaid := over
#print axioms proved
end Go.Proofs.Ytjccgdnnnlgeeaa.frameWrites
namespace Go.Proofs.Ytjccgdnnnlgeeaa
/-- The row, under a short name, for the claim. -/
theorem frameWrites_holds : Rows.FrameWritesSaid := frameWrites.proved
end Go.Proofs.Ytjccgdnnnlgeeaa
end
