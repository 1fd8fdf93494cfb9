/- law of FrameBack: the row, by its walk. -/
import Derived.Test.YtjccgdnnnlgeeaaBBackoils3
section
/- law06's FrameBack, walked: what is encoded is decoded; what is decoded is what was encoded. -/
namespace Go.Proofs.Ytjccgdnnnlgeeaa.XHand
open Go.RowKit Go.Proofs.YtjccgdnnnlgeeaaW.PrintWords Go.Proofs.YtjccgdnnnlgeeaaW.PrintLast Go.Proofs.YtjccgdnnnlgeeaaW.PrintMore Go.Proofs.Ytjccgdnnnlgeeaa.PA Go.Proofs.Ytjccgdnnnlgeeaa.XMem Go.Proofs.Ytjccgdnnnlgeeaa.XSt Go.Proofs.Ytjccgdnnnlgeeaa.XKn Go.Proofs.Ytjccgdnnnlgeeaa.XQuiet Go.Proofs.Ytjccgdnnnlgeeaa.XFr
open Go.Proofs.Ytjccgdnnnlgeeaa.XSum (Se kSe)
open Go.Proofs.Ytjccgdnnnlgeeaa.XV17 (mayT mayT_iff)
open Go.Proofs.Ytjccgdnnnlgeeaa.XV01 (P)
open Go.Proofs.Ytjccgdnnnlgeeaa.XCrc (sealB openB)
set_option linter.unusedVariables false
set_option linter.unusedSimpArgs false
set_option maxRecDepth 100000
theorem few06 (k : Nat) (f : Fr) (hk : 60 ≤ k) : ∃ b, rollcallref06_Few.f k f.f0 f.f1 f.f2 f.f3 f.f4.f0 f.f4.f1 f.f4.f2 f.f4.f3 f.f5 f.f6 = some b ∧ (b = true → f.f6.length ≤ 40) := by
 unfold rollcallref06_Few.f
 obtain ⟨q, hq, hl⟩ := XV17.fewS_f k f.f6 hk
 rw [hq]
 simp only [Option.bind_some]
 cases q with
 | false => exact ⟨false, rfl, fun h => by cases h⟩
 | true =>
  rw [if_pos rfl]
  split
  ·exact ⟨_, rfl, fun _ => hl rfl⟩
  ·exact ⟨_, rfl, fun _ => hl rfl⟩
/-- What is known of a frame that comes in. -/
def OkF (f : Fr) : Prop := (0 ≤ f.f5 ∧ f.f5 < 18446744073709551616) ∧ f.f3.size ≤ 9223372036854775807 ∧ ∀ x ∈ f.f6, x.f0.size ≤ 9223372036854775807
theorem okF_may {f : Fr} (h : mayF f = true) (h5 : 0 ≤ f.f5 ∧ f.f5 < 18446744073709551616) : OkF f ∧ f.f6.length ≤ 40 := by
 obtain ⟨_, hk⟩ := (mayF_iff f).1 h
 rcases mayK_kind hk with c | c | c | c
 ·obtain ⟨e, hn, _⟩ := body1 hk c
  have e6 : f.f6 = [] := by rw [e]
  have := isB_16 hn
  exact ⟨⟨h5, by omega, by rw [e6]; exact fun x hx => (nomatch hx)⟩, by rw [e6]; exact Nat.zero_le _⟩
 ·have e := body2 hk c
  have e6 : f.f6 = [] := by rw [e]
  have e3 : f.f3 = ⟨#[]⟩ := by rw [e]
  exact ⟨⟨h5, by rw [e3]; decide, by rw [e6]; exact fun x hx => (nomatch hx)⟩, by rw [e6]; exact Nat.zero_le _⟩
 ·obtain ⟨e, hm⟩ := body3 hk c
  have e3 : f.f3 = ⟨#[]⟩ := by rw [e]
  obtain ⟨h1, h2, _⟩ := (mayT_iff f.f6).1 hm
  refine ⟨⟨h5, by rw [e3]; decide, fun x hx => ?_⟩, by omega⟩
  have := h2 x hx
  unfold XV17.rowOk at this
  rw [Bool.and_eq_true] at this
  have := isB_16 this.1
  omega
 ·have e := body4 hk c
  have e6 : f.f6 = [] := by rw [e]
  have e3 : f.f3 = ⟨#[]⟩ := by rw [e]
  exact ⟨⟨h5, by rw [e3]; decide, by rw [e6]; exact fun x hx => (nomatch hx)⟩, by rw [e6]; exact Nat.zero_le _⟩
theorem plain_size {f : Fr} (h : mayF f = true) : (plainF f).size ≤ 1864 := by
 obtain ⟨_, _, _, h0, h1⟩ := may_body h
 exact plain_le h0 h1
theorem dec_e : decF ⟨#[]⟩ = (zF, 2) := by kernel_rfl
theorem samezz : sameArgs frame_Same.f 10 zF zF = some true := by kernel_rfl
theorem Szz (w : World) {A : Option Addr} {c : Nat} (g : (V kSe (.slice A 0 c) []).P w (fun _ => True)) : Calls Try.prog 15 #[.agg #[.int .i64 0, .int .i64 0, .bool false, .string ⟨#[]⟩, .int .i64 0, .int .i64 0, .int .i64 0, .string ⟨#[]⟩, .int .u64 0, .slice A 0 c], .agg #[.int .i64 0, .int .i64 0, .bool false, .string ⟨#[]⟩, .int .i64 0, .int .i64 0, .int .i64 0, .string ⟨#[]⟩, .int .u64 0, .slice none 0 0]] w fun e w' => e = .returned (.bool true) ∧ Below w.heap.size w w' := by
 have h := frame_Same.kn (l0_9 := []) (l1_9 := []) 10 samezz g (nilV w)
 exact h
theorem Ez (w : World) {A : Option Addr} {c : Nat} (g : (V kSe (.slice A 0 c) []).P w (fun _ => True)) : Calls Try.prog 11 #[.agg #[.int .i64 0, .int .i64 0, .bool false, .string ⟨#[]⟩, .int .i64 0, .int .i64 0, .int .i64 0, .string ⟨#[]⟩, .int .u64 0, .slice A 0 c]] w fun e w' => e = .returned (.tuple #[.string ⟨#[]⟩, .int .i64 1]) ∧ Below w.heap.size w w' := by
 have h := enc_kn (f := zF) (A := A) (c := c) (by decide) (fun x hx => (nomatch hx)) (by decide) ⟨by decide, by decide⟩ g
 unfold encF at h
 rw [if_neg (by rw [mayz]; decide)] at h
 exact h
theorem De (w : World) : Calls Try.prog 17 #[.string ⟨#[]⟩] w fun e w' => ∃ A c, e = .returned (.tuple #[.agg #[.int .i64 0, .int .i64 0, .bool false, .string ⟨#[]⟩, .int .i64 0, .int .i64 0, .int .i64 0, .string ⟨#[]⟩, .int .u64 0, .slice A 0 c], .int .i64 2]) ∧ (V kSe (.slice A 0 c) []).P w' (fun k => w.heap.size ≤ k) ∧ Below w.heap.size w w' := by
 have h := dec_calls ⟨#[]⟩ (by decide) w
 rw [dec_e] at h
 exact h
set_option maxHeartbeats 32000000 in
theorem frameBack_go (ok : Nat → Prop) (f g : Fr) (A B : Option Addr) (c d : Nat) (s : ByteArray) (hf : OkF f) (hg : OkF g) (w0 w : World) (S : Kn ok w0 [] nil tt [V kSe (.slice B g.f6.length d) g.f6, V kSe (.slice A f.f6.length c) f.f6] w) :
  Calls Try.prog 5 #[.agg #[.int .i64 f.f0, .int .i64 f.f1, .bool f.f2, .string f.f3, .int .i64 f.f4.f0, .int .i64 f.f4.f1, .int .i64 f.f4.f2, .string f.f4.f3, .int .u64 f.f5, .slice A f.f6.length c], .agg #[.int .i64 g.f0, .int .i64 g.f1, .bool g.f2, .string g.f3, .int .i64 g.f4.f0, .int .i64 g.f4.f1, .int .i64 g.f4.f2, .string g.f4.f3, .int .u64 g.f5, .slice B g.f6.length d], .string s] w fun e w' => e = .returned (.bool true) ∧ Below w0.heap.size w0 w' := by
 have HF := Aside0.mk hf
 have HG := Aside0.mk hg
 clear hf hg
 obtain ⟨b0, hb0, hl0⟩ := few06 100 f (by omega)
 obtain ⟨b1, hb1, hl1⟩ := few06 100 g (by omega)
 have F0 := Aside0.mk hb0
 have F1 := Aside0.mk hb1
 have H0 := Aside0.mk hl0
 have H1 := Aside0.mk hl1
 clear hb0 hb1 hl0 hl1
 go_enter Try.func5, Try.ntmps5
 go_upto_region 1 with (fail)
 generalize hg : World.alloc _ _ = w1
 replace S := S.new2 hg
 clear hg
 generalize w.heap.size + 1 = p4 at S ⊢
 generalize w.heap.size = p3 at S ⊢
 replace S : Kn ok w0 [(p4, .cells #[.int .i64 g.f0, .int .i64 g.f1, .bool g.f2, .string g.f3, .int .i64 g.f4.f0, .int .i64 g.f4.f1, .int .i64 g.f4.f2, .string g.f4.f3, .int .u64 g.f5, .slice B g.f6.length d] TFr (0, 0)), (p3, .cells #[.int .i64 f.f0, .int .i64 f.f1, .bool f.f2, .string f.f3, .int .i64 f.f4.f0, .int .i64 f.f4.f1, .int .i64 f.f4.f2, .string f.f4.f3, .int .u64 f.f5, .slice A f.f6.length c] TFr (0, 0))] nil tt [V kSe (.slice B g.f6.length d) g.f6, V kSe (.slice A f.f6.length c) f.f6] w1 := S
 have f_0 : w1.cell? ⟨p3, 0, none⟩ = some (.int .i64 f.f0) := S.cell 1 0 rfl rfl
 have f_1 : w1.cell? ⟨p3, 1, none⟩ = some (.int .i64 f.f1) := S.cell 1 1 rfl rfl
 have f_2 : w1.cell? ⟨p3, 2, none⟩ = some (.bool f.f2) := S.cell 1 2 rfl rfl
 have f_3 : w1.cell? ⟨p3, 3, none⟩ = some (.string f.f3) := S.cell 1 3 rfl rfl
 have f_4 : w1.cell? ⟨p3, 4, none⟩ = some (.int .i64 f.f4.f0) := S.cell 1 4 rfl rfl
 have f_5 : w1.cell? ⟨p3, 5, none⟩ = some (.int .i64 f.f4.f1) := S.cell 1 5 rfl rfl
 have f_6 : w1.cell? ⟨p3, 6, none⟩ = some (.int .i64 f.f4.f2) := S.cell 1 6 rfl rfl
 have f_7 : w1.cell? ⟨p3, 7, none⟩ = some (.string f.f4.f3) := S.cell 1 7 rfl rfl
 have f_8 : w1.cell? ⟨p3, 8, none⟩ = some (.int .u64 f.f5) := S.cell 1 8 rfl rfl
 have f_9 : w1.cell? ⟨p3, 9, none⟩ = some (.slice A f.f6.length c) := S.cell 1 9 rfl rfl
 go_wp2_with fail
 refine (rollcallref06_Few.kn 100 F0.out (S.ft 1 rfl)).mono ?_
 rintro e w2 ⟨rfl, hb⟩
 replace S := S.below hb
 clear f_0 f_1 f_2 f_3 f_4 f_5 f_6 f_7 f_8 f_9 hb
 cases b0 with
 | false =>
  go_wp2_with fail
  refine (live_walk w2).mono ?_
  rintro e wl ⟨rfl, bl⟩
  go_wp2
  go_ret
  exact ⟨rfl, below_step S.bel bl⟩
 | true =>
  have LF := Aside0.mk (H0.out rfl)
  clear F0 H0
  have g_0 : w2.cell? ⟨p4, 0, none⟩ = some (.int .i64 g.f0) := S.cell 0 0 rfl rfl
  have g_1 : w2.cell? ⟨p4, 1, none⟩ = some (.int .i64 g.f1) := S.cell 0 1 rfl rfl
  have g_2 : w2.cell? ⟨p4, 2, none⟩ = some (.bool g.f2) := S.cell 0 2 rfl rfl
  have g_3 : w2.cell? ⟨p4, 3, none⟩ = some (.string g.f3) := S.cell 0 3 rfl rfl
  have g_4 : w2.cell? ⟨p4, 4, none⟩ = some (.int .i64 g.f4.f0) := S.cell 0 4 rfl rfl
  have g_5 : w2.cell? ⟨p4, 5, none⟩ = some (.int .i64 g.f4.f1) := S.cell 0 5 rfl rfl
  have g_6 : w2.cell? ⟨p4, 6, none⟩ = some (.int .i64 g.f4.f2) := S.cell 0 6 rfl rfl
  have g_7 : w2.cell? ⟨p4, 7, none⟩ = some (.string g.f4.f3) := S.cell 0 7 rfl rfl
  have g_8 : w2.cell? ⟨p4, 8, none⟩ = some (.int .u64 g.f5) := S.cell 0 8 rfl rfl
  have g_9 : w2.cell? ⟨p4, 9, none⟩ = some (.slice B g.f6.length d) := S.cell 0 9 rfl rfl
  go_wp2_with fail
  refine (rollcallref06_Few.kn 100 F1.out (S.ft 0 rfl)).mono ?_
  rintro e w3 ⟨rfl, hb⟩
  replace S := S.below hb
  clear g_0 g_1 g_2 g_3 g_4 g_5 g_6 g_7 g_8 g_9 hb
  cases b1 with
  | false =>
   go_wp2_with fail
   refine (live_walk w3).mono ?_
   rintro e wl ⟨rfl, bl⟩
   go_wp2
   go_ret
   exact ⟨rfl, below_step S.bel bl⟩
  | true =>
   have LG := Aside0.mk (H1.out rfl)
   clear F1 H1
   by_cases hz : (s.size : Int) > 1500
   ·have hzb : decide ((s.size : Int) > 1500) = true := decide_eq_true hz
    have hzd : decide ((1500 : Int) < (s.size : Int)) = true := decide_eq_true hz
    have hze : decide (1500 < s.size) = true := decide_eq_true (by omega)
    have hzf : 1500 < s.size := by omega
    clear hz
    go_wp2_with fail
    refine (live_walk w3).mono ?_
    rintro e wl ⟨rfl, bl⟩
    go_wp2
    go_ret
    exact ⟨rfl, below_step S.bel bl⟩
   have hzb : decide ((s.size : Int) > 1500) = false := decide_eq_false hz
   have hzd : decide ((1500 : Int) < (s.size : Int)) = false := decide_eq_false hz
   have hze : decide (1500 < s.size) = false := decide_eq_false (by omega)
   have hzf : ¬ 1500 < s.size := by omega
   have hss : s.size ≤ 1500 := by omega
   clear hz
   have HPE := Aside0.mk (fun (z : World) (v : (V kSe (.slice A f.f6.length c) f.f6).P z (fun _ => True)) => enc_kn (by have := LF.out; omega) HF.out.2.2 HF.out.2.1 HF.out.1 v)
   have HPEG := Aside0.mk (fun (z : World) (v : (V kSe (.slice B g.f6.length d) g.f6).P z (fun _ => True)) => enc_kn (by have := LG.out; omega) HG.out.2.2 HG.out.2.1 HG.out.1 v)
   have HPM := Aside0.mk (fun (z : World) (v : (V kSe (.slice A f.f6.length c) f.f6).P z (fun _ => True)) => may_kn (by have := LF.out; omega) HF.out.2.2 HF.out.2.1 HF.out.1 v)
   have HD0 : Aside0 ((decF s).2 = 0 → OkF (decF s).1 ∧ (decF s).1.f6.length ≤ 40 ∧ encF (decF s).1 = (s, 0)) := ⟨fun h => by
    obtain ⟨m, e, q1, q2⟩ := enc_dec (by omega) h
    obtain ⟨o1, o2⟩ := okF_may m ⟨q1, q2⟩
    exact ⟨o1, o2, by unfold encF; rw [if_pos m, e]⟩⟩
   have HD1 : Aside0 ((decF s).2 ≠ 0 → (decF s).1 = zF) := ⟨fun h => dec_no h⟩
   have HDS := Aside0.mk (fun z => dec_calls s (by omega) z)
   generalize decF s = D at HD0 HD1 HDS
   obtain ⟨o, e⟩ := D
   dsimp only at HD0 HD1 HDS
   clear hss
   have ht0 : ((⟨#[]⟩ : ByteArray).toList == (⟨#[]⟩ : ByteArray).toList) = true := by simp
   have hsq : (s.toList == s.toList) = true := by simp
   obtain ⟨r, hr, hri⟩ := sameF_b 1000 f g (by have := LF.out; omega) (by have := LF.out; omega)
   have HR := Aside0.mk hr
   have HRI := Aside0.mk hri
   clear hr hri
   obtain ⟨r1, hr1, hri1⟩ := sameF_b 1000 f f (by have := LF.out; omega) (by have := LF.out; omega)
   obtain rfl : r1 = true := hri1.2 rfl
   have HR1 := Aside0.mk hr1
   clear hr1 hri1
   have hrr : (r == r) = true := by simp
   have hrn : (r != r) = false := by simp
   by_cases hm : mayF f = true
   ·have e1 : encF f = (sealB (plainF f), 0) := by unfold encF; rw [if_pos hm]
    rw [e1] at HPE
    rw [hm] at HPM
    clear e1
    have HDF := Aside0.mk (fun z => by have h := dec_calls (sealB (plainF f)) (by rw [sealB_size]; have := plain_size hm; omega) z; rw [dec_enc hm HF.out.1] at h; exact h)
    have HQ : Aside0 (sealB (plainF f) = sealB (plainF f)) := ⟨rfl⟩
    generalize hq : sealB (plainF f) = q at HPE HDF
    have HQQ := Aside0.mk hq
    clear hq HQ
    have HM := Aside0.mk hm
    clear hm
    have f_0 : w3.cell? ⟨p3, 0, none⟩ = some (.int .i64 f.f0) := S.cell 1 0 rfl rfl
    have f_1 : w3.cell? ⟨p3, 1, none⟩ = some (.int .i64 f.f1) := S.cell 1 1 rfl rfl
    have f_2 : w3.cell? ⟨p3, 2, none⟩ = some (.bool f.f2) := S.cell 1 2 rfl rfl
    have f_3 : w3.cell? ⟨p3, 3, none⟩ = some (.string f.f3) := S.cell 1 3 rfl rfl
    have f_4 : w3.cell? ⟨p3, 4, none⟩ = some (.int .i64 f.f4.f0) := S.cell 1 4 rfl rfl
    have f_5 : w3.cell? ⟨p3, 5, none⟩ = some (.int .i64 f.f4.f1) := S.cell 1 5 rfl rfl
    have f_6 : w3.cell? ⟨p3, 6, none⟩ = some (.int .i64 f.f4.f2) := S.cell 1 6 rfl rfl
    have f_7 : w3.cell? ⟨p3, 7, none⟩ = some (.string f.f4.f3) := S.cell 1 7 rfl rfl
    have f_8 : w3.cell? ⟨p3, 8, none⟩ = some (.int .u64 f.f5) := S.cell 1 8 rfl rfl
    have f_9 : w3.cell? ⟨p3, 9, none⟩ = some (.slice A f.f6.length c) := S.cell 1 9 rfl rfl
    go_wp2_with fail
    refine (HPE.out _ (Ft.all (S.ft 1 rfl))).mono ?_
    rintro e w4 ⟨rfl, hb⟩
    replace S := S.below hb
    clear f_0 f_1 f_2 f_3 f_4 f_5 f_6 f_7 f_8 f_9 hb HPE
    have f_0 : w4.cell? ⟨p3, 0, none⟩ = some (.int .i64 f.f0) := S.cell 1 0 rfl rfl
    have f_1 : w4.cell? ⟨p3, 1, none⟩ = some (.int .i64 f.f1) := S.cell 1 1 rfl rfl
    have f_2 : w4.cell? ⟨p3, 2, none⟩ = some (.bool f.f2) := S.cell 1 2 rfl rfl
    have f_3 : w4.cell? ⟨p3, 3, none⟩ = some (.string f.f3) := S.cell 1 3 rfl rfl
    have f_4 : w4.cell? ⟨p3, 4, none⟩ = some (.int .i64 f.f4.f0) := S.cell 1 4 rfl rfl
    have f_5 : w4.cell? ⟨p3, 5, none⟩ = some (.int .i64 f.f4.f1) := S.cell 1 5 rfl rfl
    have f_6 : w4.cell? ⟨p3, 6, none⟩ = some (.int .i64 f.f4.f2) := S.cell 1 6 rfl rfl
    have f_7 : w4.cell? ⟨p3, 7, none⟩ = some (.string f.f4.f3) := S.cell 1 7 rfl rfl
    have f_8 : w4.cell? ⟨p3, 8, none⟩ = some (.int .u64 f.f5) := S.cell 1 8 rfl rfl
    have f_9 : w4.cell? ⟨p3, 9, none⟩ = some (.slice A f.f6.length c) := S.cell 1 9 rfl rfl
    go_wp2_with fail
    refine (HPM.out _ (Ft.all (S.ft 1 rfl))).mono ?_
    rintro e w5 ⟨rfl, hb⟩
    replace S := S.below hb
    clear f_0 f_1 f_2 f_3 f_4 f_5 f_6 f_7 f_8 f_9 hb HPM
    go_wp2_with fail
    refine (HDF.out _).mono ?_
    rintro e w6 ⟨A2, c2, rfl, hV, hb⟩
    replace S := S.call (f := (V kSe (.slice A2 f.f6.length c2) f.f6)) hb (Ft.mono _ hV (fun k hk => Or.inr hk))
    clear hb hV HDF
    go_upto_region 7 with (fail)
    generalize hg : World.alloc _ _ = w7
    replace S := S.new hg
    clear hg
    generalize w6.heap.size = p9 at S ⊢
    replace S : Kn ok w0 [(p9, .cells #[.int .i64 f.f0, .int .i64 f.f1, .bool f.f2, .string f.f3, .int .i64 f.f4.f0, .int .i64 f.f4.f1, .int .i64 f.f4.f2, .string f.f4.f3, .int .u64 f.f5, .slice A2 f.f6.length c2] TFr (0, 0)), (p4, .cells #[.int .i64 g.f0, .int .i64 g.f1, .bool g.f2, .string g.f3, .int .i64 g.f4.f0, .int .i64 g.f4.f1, .int .i64 g.f4.f2, .string g.f4.f3, .int .u64 g.f5, .slice B g.f6.length d] TFr (0, 0)), (p3, .cells #[.int .i64 f.f0, .int .i64 f.f1, .bool f.f2, .string f.f3, .int .i64 f.f4.f0, .int .i64 f.f4.f1, .int .i64 f.f4.f2, .string f.f4.f3, .int .u64 f.f5, .slice A f.f6.length c] TFr (0, 0))] nil tt [V kSe (.slice A2 f.f6.length c2) f.f6, V kSe (.slice B g.f6.length d) g.f6, V kSe (.slice A f.f6.length c) f.f6] w7 := S
    have h_0 : w7.cell? ⟨p9, 0, none⟩ = some (.int .i64 f.f0) := S.cell 0 0 rfl rfl
    have h_1 : w7.cell? ⟨p9, 1, none⟩ = some (.int .i64 f.f1) := S.cell 0 1 rfl rfl
    have h_2 : w7.cell? ⟨p9, 2, none⟩ = some (.bool f.f2) := S.cell 0 2 rfl rfl
    have h_3 : w7.cell? ⟨p9, 3, none⟩ = some (.string f.f3) := S.cell 0 3 rfl rfl
    have h_4 : w7.cell? ⟨p9, 4, none⟩ = some (.int .i64 f.f4.f0) := S.cell 0 4 rfl rfl
    have h_5 : w7.cell? ⟨p9, 5, none⟩ = some (.int .i64 f.f4.f1) := S.cell 0 5 rfl rfl
    have h_6 : w7.cell? ⟨p9, 6, none⟩ = some (.int .i64 f.f4.f2) := S.cell 0 6 rfl rfl
    have h_7 : w7.cell? ⟨p9, 7, none⟩ = some (.string f.f4.f3) := S.cell 0 7 rfl rfl
    have h_8 : w7.cell? ⟨p9, 8, none⟩ = some (.int .u64 f.f5) := S.cell 0 8 rfl rfl
    have h_9 : w7.cell? ⟨p9, 9, none⟩ = some (.slice A2 f.f6.length c2) := S.cell 0 9 rfl rfl
    have f_0 : w7.cell? ⟨p3, 0, none⟩ = some (.int .i64 f.f0) := S.cell 2 0 rfl rfl
    have f_1 : w7.cell? ⟨p3, 1, none⟩ = some (.int .i64 f.f1) := S.cell 2 1 rfl rfl
    have f_2 : w7.cell? ⟨p3, 2, none⟩ = some (.bool f.f2) := S.cell 2 2 rfl rfl
    have f_3 : w7.cell? ⟨p3, 3, none⟩ = some (.string f.f3) := S.cell 2 3 rfl rfl
    have f_4 : w7.cell? ⟨p3, 4, none⟩ = some (.int .i64 f.f4.f0) := S.cell 2 4 rfl rfl
    have f_5 : w7.cell? ⟨p3, 5, none⟩ = some (.int .i64 f.f4.f1) := S.cell 2 5 rfl rfl
    have f_6 : w7.cell? ⟨p3, 6, none⟩ = some (.int .i64 f.f4.f2) := S.cell 2 6 rfl rfl
    have f_7 : w7.cell? ⟨p3, 7, none⟩ = some (.string f.f4.f3) := S.cell 2 7 rfl rfl
    have f_8 : w7.cell? ⟨p3, 8, none⟩ = some (.int .u64 f.f5) := S.cell 2 8 rfl rfl
    have f_9 : w7.cell? ⟨p3, 9, none⟩ = some (.slice A f.f6.length c) := S.cell 2 9 rfl rfl
    go_wp2_with fail
    refine (frame_Same.kn 1000 HR1.out (S.ft 0 rfl) (S.ft 2 rfl)).mono ?_
    rintro e w8 ⟨rfl, hb⟩
    replace S := S.below hb
    clear h_0 h_1 h_2 h_3 h_4 h_5 h_6 h_7 h_8 h_9 f_0 f_1 f_2 f_3 f_4 f_5 f_6 f_7 f_8 f_9 hb HR1
    by_cases hm2 : mayF g = true
    ·have e2 : encF g = (sealB (plainF g), 0) := by unfold encF; rw [if_pos hm2]
     rw [e2] at HPEG
     clear e2
     have hqr : (q.toList == (sealB (plainF g)).toList) = r := by
      rw [Bool.eq_iff_iff, HRI.out, beq_iff_eq, XBytes.toList_inj, ← HQQ.out]
      constructor
      ·intro h; exact plain_inj HM.out hm2 HF.out.1 HG.out.1 (seal_inj h)
      ·intro h; rw [h]
     generalize sealB (plainF g) = q2 at *
     clear hm2
     have g_0 : w8.cell? ⟨p4, 0, none⟩ = some (.int .i64 g.f0) := S.cell 1 0 rfl rfl
     have g_1 : w8.cell? ⟨p4, 1, none⟩ = some (.int .i64 g.f1) := S.cell 1 1 rfl rfl
     have g_2 : w8.cell? ⟨p4, 2, none⟩ = some (.bool g.f2) := S.cell 1 2 rfl rfl
     have g_3 : w8.cell? ⟨p4, 3, none⟩ = some (.string g.f3) := S.cell 1 3 rfl rfl
     have g_4 : w8.cell? ⟨p4, 4, none⟩ = some (.int .i64 g.f4.f0) := S.cell 1 4 rfl rfl
     have g_5 : w8.cell? ⟨p4, 5, none⟩ = some (.int .i64 g.f4.f1) := S.cell 1 5 rfl rfl
     have g_6 : w8.cell? ⟨p4, 6, none⟩ = some (.int .i64 g.f4.f2) := S.cell 1 6 rfl rfl
     have g_7 : w8.cell? ⟨p4, 7, none⟩ = some (.string g.f4.f3) := S.cell 1 7 rfl rfl
     have g_8 : w8.cell? ⟨p4, 8, none⟩ = some (.int .u64 g.f5) := S.cell 1 8 rfl rfl
     have g_9 : w8.cell? ⟨p4, 9, none⟩ = some (.slice B g.f6.length d) := S.cell 1 9 rfl rfl
     go_wp2_with fail
     refine (HPEG.out _ (Ft.all (S.ft 1 rfl))).mono ?_
     rintro e w9 ⟨rfl, hb⟩
     replace S := S.below hb
     clear g_0 g_1 g_2 g_3 g_4 g_5 g_6 g_7 g_8 g_9 hb HPEG
     have f_0 : w9.cell? ⟨p3, 0, none⟩ = some (.int .i64 f.f0) := S.cell 2 0 rfl rfl
     have f_1 : w9.cell? ⟨p3, 1, none⟩ = some (.int .i64 f.f1) := S.cell 2 1 rfl rfl
     have f_2 : w9.cell? ⟨p3, 2, none⟩ = some (.bool f.f2) := S.cell 2 2 rfl rfl
     have f_3 : w9.cell? ⟨p3, 3, none⟩ = some (.string f.f3) := S.cell 2 3 rfl rfl
     have f_4 : w9.cell? ⟨p3, 4, none⟩ = some (.int .i64 f.f4.f0) := S.cell 2 4 rfl rfl
     have f_5 : w9.cell? ⟨p3, 5, none⟩ = some (.int .i64 f.f4.f1) := S.cell 2 5 rfl rfl
     have f_6 : w9.cell? ⟨p3, 6, none⟩ = some (.int .i64 f.f4.f2) := S.cell 2 6 rfl rfl
     have f_7 : w9.cell? ⟨p3, 7, none⟩ = some (.string f.f4.f3) := S.cell 2 7 rfl rfl
     have f_8 : w9.cell? ⟨p3, 8, none⟩ = some (.int .u64 f.f5) := S.cell 2 8 rfl rfl
     have f_9 : w9.cell? ⟨p3, 9, none⟩ = some (.slice A f.f6.length c) := S.cell 2 9 rfl rfl
     have g_0 : w9.cell? ⟨p4, 0, none⟩ = some (.int .i64 g.f0) := S.cell 1 0 rfl rfl
     have g_1 : w9.cell? ⟨p4, 1, none⟩ = some (.int .i64 g.f1) := S.cell 1 1 rfl rfl
     have g_2 : w9.cell? ⟨p4, 2, none⟩ = some (.bool g.f2) := S.cell 1 2 rfl rfl
     have g_3 : w9.cell? ⟨p4, 3, none⟩ = some (.string g.f3) := S.cell 1 3 rfl rfl
     have g_4 : w9.cell? ⟨p4, 4, none⟩ = some (.int .i64 g.f4.f0) := S.cell 1 4 rfl rfl
     have g_5 : w9.cell? ⟨p4, 5, none⟩ = some (.int .i64 g.f4.f1) := S.cell 1 5 rfl rfl
     have g_6 : w9.cell? ⟨p4, 6, none⟩ = some (.int .i64 g.f4.f2) := S.cell 1 6 rfl rfl
     have g_7 : w9.cell? ⟨p4, 7, none⟩ = some (.string g.f4.f3) := S.cell 1 7 rfl rfl
     have g_8 : w9.cell? ⟨p4, 8, none⟩ = some (.int .u64 g.f5) := S.cell 1 8 rfl rfl
     have g_9 : w9.cell? ⟨p4, 9, none⟩ = some (.slice B g.f6.length d) := S.cell 1 9 rfl rfl
     go_wp2_with fail
     refine (frame_Same.kn 1000 HR.out (S.ft 2 rfl) (S.ft 1 rfl)).mono ?_
     rintro e w10 ⟨rfl, hb⟩
     replace S := S.below hb
     clear f_0 f_1 f_2 f_3 f_4 f_5 f_6 f_7 f_8 f_9 g_0 g_1 g_2 g_3 g_4 g_5 g_6 g_7 g_8 g_9 hb HR
     by_cases he : e = 0
     ·subst he
      obtain ⟨ho, hl, heo⟩ := HD0.out rfl
      have HO := Aside0.mk ho
      have LO := Aside0.mk hl
      clear ho hl
      go_wp2_with fail
      refine (HDS.out _).mono ?_
      rintro e w11 ⟨A9, c9, rfl, hV, hb⟩
      replace S := S.call (f := (V kSe (.slice A9 o.f6.length c9) o.f6)) hb (Ft.mono _ hV (fun k hk => Or.inr hk))
      clear hb hV HDS
      go_upto_region 13 with (fail)
      generalize hg : World.alloc _ _ = w12
      replace S := S.new hg
      clear hg
      generalize w11.heap.size = p13 at S ⊢
      replace S : Kn ok w0 [(p13, .cells #[.int .i64 o.f0, .int .i64 o.f1, .bool o.f2, .string o.f3, .int .i64 o.f4.f0, .int .i64 o.f4.f1, .int .i64 o.f4.f2, .string o.f4.f3, .int .u64 o.f5, .slice A9 o.f6.length c9] TFr (0, 0)), (p9, .cells #[.int .i64 f.f0, .int .i64 f.f1, .bool f.f2, .string f.f3, .int .i64 f.f4.f0, .int .i64 f.f4.f1, .int .i64 f.f4.f2, .string f.f4.f3, .int .u64 f.f5, .slice A2 f.f6.length c2] TFr (0, 0)), (p4, .cells #[.int .i64 g.f0, .int .i64 g.f1, .bool g.f2, .string g.f3, .int .i64 g.f4.f0, .int .i64 g.f4.f1, .int .i64 g.f4.f2, .string g.f4.f3, .int .u64 g.f5, .slice B g.f6.length d] TFr (0, 0)), (p3, .cells #[.int .i64 f.f0, .int .i64 f.f1, .bool f.f2, .string f.f3, .int .i64 f.f4.f0, .int .i64 f.f4.f1, .int .i64 f.f4.f2, .string f.f4.f3, .int .u64 f.f5, .slice A f.f6.length c] TFr (0, 0))] nil tt [V kSe (.slice A9 o.f6.length c9) o.f6, V kSe (.slice A2 f.f6.length c2) f.f6, V kSe (.slice B g.f6.length d) g.f6, V kSe (.slice A f.f6.length c) f.f6] w12 := S
      have HEO := Aside0.mk (fun (z : World) (v : (V kSe (.slice A9 o.f6.length c9) o.f6).P z (fun _ => True)) => by have h := enc_kn (by have := LO.out; omega) HO.out.2.2 HO.out.2.1 HO.out.1 v; rw [heo] at h; exact h)
      clear heo
      have o_0 : w12.cell? ⟨p13, 0, none⟩ = some (.int .i64 o.f0) := S.cell 0 0 rfl rfl
      have o_1 : w12.cell? ⟨p13, 1, none⟩ = some (.int .i64 o.f1) := S.cell 0 1 rfl rfl
      have o_2 : w12.cell? ⟨p13, 2, none⟩ = some (.bool o.f2) := S.cell 0 2 rfl rfl
      have o_3 : w12.cell? ⟨p13, 3, none⟩ = some (.string o.f3) := S.cell 0 3 rfl rfl
      have o_4 : w12.cell? ⟨p13, 4, none⟩ = some (.int .i64 o.f4.f0) := S.cell 0 4 rfl rfl
      have o_5 : w12.cell? ⟨p13, 5, none⟩ = some (.int .i64 o.f4.f1) := S.cell 0 5 rfl rfl
      have o_6 : w12.cell? ⟨p13, 6, none⟩ = some (.int .i64 o.f4.f2) := S.cell 0 6 rfl rfl
      have o_7 : w12.cell? ⟨p13, 7, none⟩ = some (.string o.f4.f3) := S.cell 0 7 rfl rfl
      have o_8 : w12.cell? ⟨p13, 8, none⟩ = some (.int .u64 o.f5) := S.cell 0 8 rfl rfl
      have o_9 : w12.cell? ⟨p13, 9, none⟩ = some (.slice A9 o.f6.length c9) := S.cell 0 9 rfl rfl
      go_wp2_with fail
      refine (HEO.out _ (Ft.all (S.ft 0 rfl))).mono ?_
      rintro e w13 ⟨rfl, hb⟩
      replace S := S.below hb
      clear o_0 o_1 o_2 o_3 o_4 o_5 o_6 o_7 o_8 o_9 hb HEO
      go_wp2_with fail
      refine (live_walk w13).mono ?_
      rintro e wl ⟨rfl, bl⟩
      go_wp2
      go_ret
      exact ⟨rfl, below_step S.bel bl⟩
     ·obtain rfl : o = zF := HD1.out he
      have heb : (e != 0) = true := bne_iff_ne.mpr he
      have hec : (e == 0) = false := beq_eq_false_iff_ne.mpr he
      clear he
      go_wp2_with fail
      refine (HDS.out _).mono ?_
      rintro e w11 ⟨A9, c9, rfl, hV, hb⟩
      replace S := S.call (f := (V kSe (.slice A9 0 c9) [])) hb (Ft.mono _ hV (fun k hk => Or.inr hk))
      clear hb hV HDS
      go_upto_region 13 with (fail)
      generalize hg : World.alloc _ _ = w12
      replace S := S.new hg
      clear hg
      generalize w11.heap.size = p13 at S ⊢
      replace S : Kn ok w0 [(p13, .cells #[.int .i64 0, .int .i64 0, .bool false, .string ⟨#[]⟩, .int .i64 0, .int .i64 0, .int .i64 0, .string ⟨#[]⟩, .int .u64 0, .slice A9 0 c9] TFr (0, 0)), (p9, .cells #[.int .i64 f.f0, .int .i64 f.f1, .bool f.f2, .string f.f3, .int .i64 f.f4.f0, .int .i64 f.f4.f1, .int .i64 f.f4.f2, .string f.f4.f3, .int .u64 f.f5, .slice A2 f.f6.length c2] TFr (0, 0)), (p4, .cells #[.int .i64 g.f0, .int .i64 g.f1, .bool g.f2, .string g.f3, .int .i64 g.f4.f0, .int .i64 g.f4.f1, .int .i64 g.f4.f2, .string g.f4.f3, .int .u64 g.f5, .slice B g.f6.length d] TFr (0, 0)), (p3, .cells #[.int .i64 f.f0, .int .i64 f.f1, .bool f.f2, .string f.f3, .int .i64 f.f4.f0, .int .i64 f.f4.f1, .int .i64 f.f4.f2, .string f.f4.f3, .int .u64 f.f5, .slice A f.f6.length c] TFr (0, 0))] nil tt [V kSe (.slice A9 0 c9) [], V kSe (.slice A2 f.f6.length c2) f.f6, V kSe (.slice B g.f6.length d) g.f6, V kSe (.slice A f.f6.length c) f.f6] w12 := S
      have o_0 : w12.cell? ⟨p13, 0, none⟩ = some (.int .i64 0) := S.cell 0 0 rfl rfl
      have o_1 : w12.cell? ⟨p13, 1, none⟩ = some (.int .i64 0) := S.cell 0 1 rfl rfl
      have o_2 : w12.cell? ⟨p13, 2, none⟩ = some (.bool false) := S.cell 0 2 rfl rfl
      have o_3 : w12.cell? ⟨p13, 3, none⟩ = some (.string ⟨#[]⟩) := S.cell 0 3 rfl rfl
      have o_4 : w12.cell? ⟨p13, 4, none⟩ = some (.int .i64 0) := S.cell 0 4 rfl rfl
      have o_5 : w12.cell? ⟨p13, 5, none⟩ = some (.int .i64 0) := S.cell 0 5 rfl rfl
      have o_6 : w12.cell? ⟨p13, 6, none⟩ = some (.int .i64 0) := S.cell 0 6 rfl rfl
      have o_7 : w12.cell? ⟨p13, 7, none⟩ = some (.string ⟨#[]⟩) := S.cell 0 7 rfl rfl
      have o_8 : w12.cell? ⟨p13, 8, none⟩ = some (.int .u64 0) := S.cell 0 8 rfl rfl
      have o_9 : w12.cell? ⟨p13, 9, none⟩ = some (.slice A9 0 c9) := S.cell 0 9 rfl rfl
      go_wp2_with fail
      refine (Ez _ (Ft.all (S.ft 0 rfl))).mono ?_
      rintro e w13 ⟨rfl, hb⟩
      replace S := S.below hb
      clear o_0 o_1 o_2 o_3 o_4 o_5 o_6 o_7 o_8 o_9 hb
      have o_0 : w13.cell? ⟨p13, 0, none⟩ = some (.int .i64 0) := S.cell 0 0 rfl rfl
      have o_1 : w13.cell? ⟨p13, 1, none⟩ = some (.int .i64 0) := S.cell 0 1 rfl rfl
      have o_2 : w13.cell? ⟨p13, 2, none⟩ = some (.bool false) := S.cell 0 2 rfl rfl
      have o_3 : w13.cell? ⟨p13, 3, none⟩ = some (.string ⟨#[]⟩) := S.cell 0 3 rfl rfl
      have o_4 : w13.cell? ⟨p13, 4, none⟩ = some (.int .i64 0) := S.cell 0 4 rfl rfl
      have o_5 : w13.cell? ⟨p13, 5, none⟩ = some (.int .i64 0) := S.cell 0 5 rfl rfl
      have o_6 : w13.cell? ⟨p13, 6, none⟩ = some (.int .i64 0) := S.cell 0 6 rfl rfl
      have o_7 : w13.cell? ⟨p13, 7, none⟩ = some (.string ⟨#[]⟩) := S.cell 0 7 rfl rfl
      have o_8 : w13.cell? ⟨p13, 8, none⟩ = some (.int .u64 0) := S.cell 0 8 rfl rfl
      have o_9 : w13.cell? ⟨p13, 9, none⟩ = some (.slice A9 0 c9) := S.cell 0 9 rfl rfl
      go_wp2_with fail
      refine (Szz _ (Ft.all (S.ft 0 rfl))).mono ?_
      rintro e w14 ⟨rfl, hb⟩
      replace S := S.below hb
      clear o_0 o_1 o_2 o_3 o_4 o_5 o_6 o_7 o_8 o_9 hb
      go_wp2_with fail
      refine (live_walk w14).mono ?_
      rintro e wl ⟨rfl, bl⟩
      go_wp2
      go_ret
      exact ⟨rfl, below_step S.bel bl⟩
    ·have e2 : encF g = (⟨#[]⟩, 1) := by unfold encF; rw [if_neg hm2]
     rw [e2] at HPEG
     clear e2 hm2
     have g_0 : w8.cell? ⟨p4, 0, none⟩ = some (.int .i64 g.f0) := S.cell 1 0 rfl rfl
     have g_1 : w8.cell? ⟨p4, 1, none⟩ = some (.int .i64 g.f1) := S.cell 1 1 rfl rfl
     have g_2 : w8.cell? ⟨p4, 2, none⟩ = some (.bool g.f2) := S.cell 1 2 rfl rfl
     have g_3 : w8.cell? ⟨p4, 3, none⟩ = some (.string g.f3) := S.cell 1 3 rfl rfl
     have g_4 : w8.cell? ⟨p4, 4, none⟩ = some (.int .i64 g.f4.f0) := S.cell 1 4 rfl rfl
     have g_5 : w8.cell? ⟨p4, 5, none⟩ = some (.int .i64 g.f4.f1) := S.cell 1 5 rfl rfl
     have g_6 : w8.cell? ⟨p4, 6, none⟩ = some (.int .i64 g.f4.f2) := S.cell 1 6 rfl rfl
     have g_7 : w8.cell? ⟨p4, 7, none⟩ = some (.string g.f4.f3) := S.cell 1 7 rfl rfl
     have g_8 : w8.cell? ⟨p4, 8, none⟩ = some (.int .u64 g.f5) := S.cell 1 8 rfl rfl
     have g_9 : w8.cell? ⟨p4, 9, none⟩ = some (.slice B g.f6.length d) := S.cell 1 9 rfl rfl
     go_wp2_with fail
     refine (HPEG.out _ (Ft.all (S.ft 1 rfl))).mono ?_
     rintro e w9 ⟨rfl, hb⟩
     replace S := S.below hb
     clear g_0 g_1 g_2 g_3 g_4 g_5 g_6 g_7 g_8 g_9 hb HPEG
     by_cases he : e = 0
     ·subst he
      obtain ⟨ho, hl, heo⟩ := HD0.out rfl
      have HO := Aside0.mk ho
      have LO := Aside0.mk hl
      clear ho hl
      go_wp2_with fail
      refine (HDS.out _).mono ?_
      rintro e w10 ⟨A9, c9, rfl, hV, hb⟩
      replace S := S.call (f := (V kSe (.slice A9 o.f6.length c9) o.f6)) hb (Ft.mono _ hV (fun k hk => Or.inr hk))
      clear hb hV HDS
      go_upto_region 13 with (fail)
      generalize hg : World.alloc _ _ = w11
      replace S := S.new hg
      clear hg
      generalize w10.heap.size = p13 at S ⊢
      replace S : Kn ok w0 [(p13, .cells #[.int .i64 o.f0, .int .i64 o.f1, .bool o.f2, .string o.f3, .int .i64 o.f4.f0, .int .i64 o.f4.f1, .int .i64 o.f4.f2, .string o.f4.f3, .int .u64 o.f5, .slice A9 o.f6.length c9] TFr (0, 0)), (p9, .cells #[.int .i64 f.f0, .int .i64 f.f1, .bool f.f2, .string f.f3, .int .i64 f.f4.f0, .int .i64 f.f4.f1, .int .i64 f.f4.f2, .string f.f4.f3, .int .u64 f.f5, .slice A2 f.f6.length c2] TFr (0, 0)), (p4, .cells #[.int .i64 g.f0, .int .i64 g.f1, .bool g.f2, .string g.f3, .int .i64 g.f4.f0, .int .i64 g.f4.f1, .int .i64 g.f4.f2, .string g.f4.f3, .int .u64 g.f5, .slice B g.f6.length d] TFr (0, 0)), (p3, .cells #[.int .i64 f.f0, .int .i64 f.f1, .bool f.f2, .string f.f3, .int .i64 f.f4.f0, .int .i64 f.f4.f1, .int .i64 f.f4.f2, .string f.f4.f3, .int .u64 f.f5, .slice A f.f6.length c] TFr (0, 0))] nil tt [V kSe (.slice A9 o.f6.length c9) o.f6, V kSe (.slice A2 f.f6.length c2) f.f6, V kSe (.slice B g.f6.length d) g.f6, V kSe (.slice A f.f6.length c) f.f6] w11 := S
      have HEO := Aside0.mk (fun (z : World) (v : (V kSe (.slice A9 o.f6.length c9) o.f6).P z (fun _ => True)) => by have h := enc_kn (by have := LO.out; omega) HO.out.2.2 HO.out.2.1 HO.out.1 v; rw [heo] at h; exact h)
      clear heo
      have o_0 : w11.cell? ⟨p13, 0, none⟩ = some (.int .i64 o.f0) := S.cell 0 0 rfl rfl
      have o_1 : w11.cell? ⟨p13, 1, none⟩ = some (.int .i64 o.f1) := S.cell 0 1 rfl rfl
      have o_2 : w11.cell? ⟨p13, 2, none⟩ = some (.bool o.f2) := S.cell 0 2 rfl rfl
      have o_3 : w11.cell? ⟨p13, 3, none⟩ = some (.string o.f3) := S.cell 0 3 rfl rfl
      have o_4 : w11.cell? ⟨p13, 4, none⟩ = some (.int .i64 o.f4.f0) := S.cell 0 4 rfl rfl
      have o_5 : w11.cell? ⟨p13, 5, none⟩ = some (.int .i64 o.f4.f1) := S.cell 0 5 rfl rfl
      have o_6 : w11.cell? ⟨p13, 6, none⟩ = some (.int .i64 o.f4.f2) := S.cell 0 6 rfl rfl
      have o_7 : w11.cell? ⟨p13, 7, none⟩ = some (.string o.f4.f3) := S.cell 0 7 rfl rfl
      have o_8 : w11.cell? ⟨p13, 8, none⟩ = some (.int .u64 o.f5) := S.cell 0 8 rfl rfl
      have o_9 : w11.cell? ⟨p13, 9, none⟩ = some (.slice A9 o.f6.length c9) := S.cell 0 9 rfl rfl
      go_wp2_with fail
      refine (HEO.out _ (Ft.all (S.ft 0 rfl))).mono ?_
      rintro e w12 ⟨rfl, hb⟩
      replace S := S.below hb
      clear o_0 o_1 o_2 o_3 o_4 o_5 o_6 o_7 o_8 o_9 hb HEO
      go_wp2_with fail
      refine (live_walk w12).mono ?_
      rintro e wl ⟨rfl, bl⟩
      go_wp2
      go_ret
      exact ⟨rfl, below_step S.bel bl⟩
     ·obtain rfl : o = zF := HD1.out he
      have heb : (e != 0) = true := bne_iff_ne.mpr he
      have hec : (e == 0) = false := beq_eq_false_iff_ne.mpr he
      clear he
      go_wp2_with fail
      refine (HDS.out _).mono ?_
      rintro e w10 ⟨A9, c9, rfl, hV, hb⟩
      replace S := S.call (f := (V kSe (.slice A9 0 c9) [])) hb (Ft.mono _ hV (fun k hk => Or.inr hk))
      clear hb hV HDS
      go_upto_region 13 with (fail)
      generalize hg : World.alloc _ _ = w11
      replace S := S.new hg
      clear hg
      generalize w10.heap.size = p13 at S ⊢
      replace S : Kn ok w0 [(p13, .cells #[.int .i64 0, .int .i64 0, .bool false, .string ⟨#[]⟩, .int .i64 0, .int .i64 0, .int .i64 0, .string ⟨#[]⟩, .int .u64 0, .slice A9 0 c9] TFr (0, 0)), (p9, .cells #[.int .i64 f.f0, .int .i64 f.f1, .bool f.f2, .string f.f3, .int .i64 f.f4.f0, .int .i64 f.f4.f1, .int .i64 f.f4.f2, .string f.f4.f3, .int .u64 f.f5, .slice A2 f.f6.length c2] TFr (0, 0)), (p4, .cells #[.int .i64 g.f0, .int .i64 g.f1, .bool g.f2, .string g.f3, .int .i64 g.f4.f0, .int .i64 g.f4.f1, .int .i64 g.f4.f2, .string g.f4.f3, .int .u64 g.f5, .slice B g.f6.length d] TFr (0, 0)), (p3, .cells #[.int .i64 f.f0, .int .i64 f.f1, .bool f.f2, .string f.f3, .int .i64 f.f4.f0, .int .i64 f.f4.f1, .int .i64 f.f4.f2, .string f.f4.f3, .int .u64 f.f5, .slice A f.f6.length c] TFr (0, 0))] nil tt [V kSe (.slice A9 0 c9) [], V kSe (.slice A2 f.f6.length c2) f.f6, V kSe (.slice B g.f6.length d) g.f6, V kSe (.slice A f.f6.length c) f.f6] w11 := S
      have o_0 : w11.cell? ⟨p13, 0, none⟩ = some (.int .i64 0) := S.cell 0 0 rfl rfl
      have o_1 : w11.cell? ⟨p13, 1, none⟩ = some (.int .i64 0) := S.cell 0 1 rfl rfl
      have o_2 : w11.cell? ⟨p13, 2, none⟩ = some (.bool false) := S.cell 0 2 rfl rfl
      have o_3 : w11.cell? ⟨p13, 3, none⟩ = some (.string ⟨#[]⟩) := S.cell 0 3 rfl rfl
      have o_4 : w11.cell? ⟨p13, 4, none⟩ = some (.int .i64 0) := S.cell 0 4 rfl rfl
      have o_5 : w11.cell? ⟨p13, 5, none⟩ = some (.int .i64 0) := S.cell 0 5 rfl rfl
      have o_6 : w11.cell? ⟨p13, 6, none⟩ = some (.int .i64 0) := S.cell 0 6 rfl rfl
      have o_7 : w11.cell? ⟨p13, 7, none⟩ = some (.string ⟨#[]⟩) := S.cell 0 7 rfl rfl
      have o_8 : w11.cell? ⟨p13, 8, none⟩ = some (.int .u64 0) := S.cell 0 8 rfl rfl
      have o_9 : w11.cell? ⟨p13, 9, none⟩ = some (.slice A9 0 c9) := S.cell 0 9 rfl rfl
      go_wp2_with fail
      refine (Ez _ (Ft.all (S.ft 0 rfl))).mono ?_
      rintro e w12 ⟨rfl, hb⟩
      replace S := S.below hb
      clear o_0 o_1 o_2 o_3 o_4 o_5 o_6 o_7 o_8 o_9 hb
      have o_0 : w12.cell? ⟨p13, 0, none⟩ = some (.int .i64 0) := S.cell 0 0 rfl rfl
      have o_1 : w12.cell? ⟨p13, 1, none⟩ = some (.int .i64 0) := S.cell 0 1 rfl rfl
      have o_2 : w12.cell? ⟨p13, 2, none⟩ = some (.bool false) := S.cell 0 2 rfl rfl
      have o_3 : w12.cell? ⟨p13, 3, none⟩ = some (.string ⟨#[]⟩) := S.cell 0 3 rfl rfl
      have o_4 : w12.cell? ⟨p13, 4, none⟩ = some (.int .i64 0) := S.cell 0 4 rfl rfl
      have o_5 : w12.cell? ⟨p13, 5, none⟩ = some (.int .i64 0) := S.cell 0 5 rfl rfl
      have o_6 : w12.cell? ⟨p13, 6, none⟩ = some (.int .i64 0) := S.cell 0 6 rfl rfl
      have o_7 : w12.cell? ⟨p13, 7, none⟩ = some (.string ⟨#[]⟩) := S.cell 0 7 rfl rfl
      have o_8 : w12.cell? ⟨p13, 8, none⟩ = some (.int .u64 0) := S.cell 0 8 rfl rfl
      have o_9 : w12.cell? ⟨p13, 9, none⟩ = some (.slice A9 0 c9) := S.cell 0 9 rfl rfl
      go_wp2_with fail
      refine (Szz _ (Ft.all (S.ft 0 rfl))).mono ?_
      rintro e w13 ⟨rfl, hb⟩
      replace S := S.below hb
      clear o_0 o_1 o_2 o_3 o_4 o_5 o_6 o_7 o_8 o_9 hb
      go_wp2_with fail
      refine (live_walk w13).mono ?_
      rintro e wl ⟨rfl, bl⟩
      go_wp2
      go_ret
      exact ⟨rfl, below_step S.bel bl⟩
   ·have e1 : encF f = (⟨#[]⟩, 1) := by unfold encF; rw [if_neg hm]
    rw [e1] at HPE
    rw [Bool.eq_false_iff.mpr hm] at HPM
    clear e1
    clear hm
    have f_0 : w3.cell? ⟨p3, 0, none⟩ = some (.int .i64 f.f0) := S.cell 1 0 rfl rfl
    have f_1 : w3.cell? ⟨p3, 1, none⟩ = some (.int .i64 f.f1) := S.cell 1 1 rfl rfl
    have f_2 : w3.cell? ⟨p3, 2, none⟩ = some (.bool f.f2) := S.cell 1 2 rfl rfl
    have f_3 : w3.cell? ⟨p3, 3, none⟩ = some (.string f.f3) := S.cell 1 3 rfl rfl
    have f_4 : w3.cell? ⟨p3, 4, none⟩ = some (.int .i64 f.f4.f0) := S.cell 1 4 rfl rfl
    have f_5 : w3.cell? ⟨p3, 5, none⟩ = some (.int .i64 f.f4.f1) := S.cell 1 5 rfl rfl
    have f_6 : w3.cell? ⟨p3, 6, none⟩ = some (.int .i64 f.f4.f2) := S.cell 1 6 rfl rfl
    have f_7 : w3.cell? ⟨p3, 7, none⟩ = some (.string f.f4.f3) := S.cell 1 7 rfl rfl
    have f_8 : w3.cell? ⟨p3, 8, none⟩ = some (.int .u64 f.f5) := S.cell 1 8 rfl rfl
    have f_9 : w3.cell? ⟨p3, 9, none⟩ = some (.slice A f.f6.length c) := S.cell 1 9 rfl rfl
    go_wp2_with fail
    refine (HPE.out _ (Ft.all (S.ft 1 rfl))).mono ?_
    rintro e w4 ⟨rfl, hb⟩
    replace S := S.below hb
    clear f_0 f_1 f_2 f_3 f_4 f_5 f_6 f_7 f_8 f_9 hb HPE
    have f_0 : w4.cell? ⟨p3, 0, none⟩ = some (.int .i64 f.f0) := S.cell 1 0 rfl rfl
    have f_1 : w4.cell? ⟨p3, 1, none⟩ = some (.int .i64 f.f1) := S.cell 1 1 rfl rfl
    have f_2 : w4.cell? ⟨p3, 2, none⟩ = some (.bool f.f2) := S.cell 1 2 rfl rfl
    have f_3 : w4.cell? ⟨p3, 3, none⟩ = some (.string f.f3) := S.cell 1 3 rfl rfl
    have f_4 : w4.cell? ⟨p3, 4, none⟩ = some (.int .i64 f.f4.f0) := S.cell 1 4 rfl rfl
    have f_5 : w4.cell? ⟨p3, 5, none⟩ = some (.int .i64 f.f4.f1) := S.cell 1 5 rfl rfl
    have f_6 : w4.cell? ⟨p3, 6, none⟩ = some (.int .i64 f.f4.f2) := S.cell 1 6 rfl rfl
    have f_7 : w4.cell? ⟨p3, 7, none⟩ = some (.string f.f4.f3) := S.cell 1 7 rfl rfl
    have f_8 : w4.cell? ⟨p3, 8, none⟩ = some (.int .u64 f.f5) := S.cell 1 8 rfl rfl
    have f_9 : w4.cell? ⟨p3, 9, none⟩ = some (.slice A f.f6.length c) := S.cell 1 9 rfl rfl
    go_wp2_with fail
    refine (HPM.out _ (Ft.all (S.ft 1 rfl))).mono ?_
    rintro e w5 ⟨rfl, hb⟩
    replace S := S.below hb
    clear f_0 f_1 f_2 f_3 f_4 f_5 f_6 f_7 f_8 f_9 hb HPM
    go_wp2_with fail
    refine (De _).mono ?_
    rintro e w6 ⟨A2, c2, rfl, hV, hb⟩
    replace S := S.call (f := (V kSe (.slice A2 0 c2) [])) hb (Ft.mono _ hV (fun k hk => Or.inr hk))
    clear hb hV
    go_upto_region 7 with (fail)
    generalize hg : World.alloc _ _ = w7
    replace S := S.new hg
    clear hg
    generalize w6.heap.size = p9 at S ⊢
    replace S : Kn ok w0 [(p9, .cells #[.int .i64 0, .int .i64 0, .bool false, .string ⟨#[]⟩, .int .i64 0, .int .i64 0, .int .i64 0, .string ⟨#[]⟩, .int .u64 0, .slice A2 0 c2] TFr (0, 0)), (p4, .cells #[.int .i64 g.f0, .int .i64 g.f1, .bool g.f2, .string g.f3, .int .i64 g.f4.f0, .int .i64 g.f4.f1, .int .i64 g.f4.f2, .string g.f4.f3, .int .u64 g.f5, .slice B g.f6.length d] TFr (0, 0)), (p3, .cells #[.int .i64 f.f0, .int .i64 f.f1, .bool f.f2, .string f.f3, .int .i64 f.f4.f0, .int .i64 f.f4.f1, .int .i64 f.f4.f2, .string f.f4.f3, .int .u64 f.f5, .slice A f.f6.length c] TFr (0, 0))] nil tt [V kSe (.slice A2 0 c2) [], V kSe (.slice B g.f6.length d) g.f6, V kSe (.slice A f.f6.length c) f.f6] w7 := S
    by_cases hm2 : mayF g = true
    ·have e2 : encF g = (sealB (plainF g), 0) := by unfold encF; rw [if_pos hm2]
     rw [e2] at HPEG
     clear e2
     generalize sealB (plainF g) = q2 at *
     clear hm2
     have g_0 : w7.cell? ⟨p4, 0, none⟩ = some (.int .i64 g.f0) := S.cell 1 0 rfl rfl
     have g_1 : w7.cell? ⟨p4, 1, none⟩ = some (.int .i64 g.f1) := S.cell 1 1 rfl rfl
     have g_2 : w7.cell? ⟨p4, 2, none⟩ = some (.bool g.f2) := S.cell 1 2 rfl rfl
     have g_3 : w7.cell? ⟨p4, 3, none⟩ = some (.string g.f3) := S.cell 1 3 rfl rfl
     have g_4 : w7.cell? ⟨p4, 4, none⟩ = some (.int .i64 g.f4.f0) := S.cell 1 4 rfl rfl
     have g_5 : w7.cell? ⟨p4, 5, none⟩ = some (.int .i64 g.f4.f1) := S.cell 1 5 rfl rfl
     have g_6 : w7.cell? ⟨p4, 6, none⟩ = some (.int .i64 g.f4.f2) := S.cell 1 6 rfl rfl
     have g_7 : w7.cell? ⟨p4, 7, none⟩ = some (.string g.f4.f3) := S.cell 1 7 rfl rfl
     have g_8 : w7.cell? ⟨p4, 8, none⟩ = some (.int .u64 g.f5) := S.cell 1 8 rfl rfl
     have g_9 : w7.cell? ⟨p4, 9, none⟩ = some (.slice B g.f6.length d) := S.cell 1 9 rfl rfl
     go_wp2_with fail
     refine (HPEG.out _ (Ft.all (S.ft 1 rfl))).mono ?_
     rintro e w8 ⟨rfl, hb⟩
     replace S := S.below hb
     clear g_0 g_1 g_2 g_3 g_4 g_5 g_6 g_7 g_8 g_9 hb HPEG
     by_cases he : e = 0
     ·subst he
      obtain ⟨ho, hl, heo⟩ := HD0.out rfl
      have HO := Aside0.mk ho
      have LO := Aside0.mk hl
      clear ho hl
      go_wp2_with fail
      refine (HDS.out _).mono ?_
      rintro e w9 ⟨A9, c9, rfl, hV, hb⟩
      replace S := S.call (f := (V kSe (.slice A9 o.f6.length c9) o.f6)) hb (Ft.mono _ hV (fun k hk => Or.inr hk))
      clear hb hV HDS
      go_upto_region 13 with (fail)
      generalize hg : World.alloc _ _ = w10
      replace S := S.new hg
      clear hg
      generalize w9.heap.size = p13 at S ⊢
      replace S : Kn ok w0 [(p13, .cells #[.int .i64 o.f0, .int .i64 o.f1, .bool o.f2, .string o.f3, .int .i64 o.f4.f0, .int .i64 o.f4.f1, .int .i64 o.f4.f2, .string o.f4.f3, .int .u64 o.f5, .slice A9 o.f6.length c9] TFr (0, 0)), (p9, .cells #[.int .i64 0, .int .i64 0, .bool false, .string ⟨#[]⟩, .int .i64 0, .int .i64 0, .int .i64 0, .string ⟨#[]⟩, .int .u64 0, .slice A2 0 c2] TFr (0, 0)), (p4, .cells #[.int .i64 g.f0, .int .i64 g.f1, .bool g.f2, .string g.f3, .int .i64 g.f4.f0, .int .i64 g.f4.f1, .int .i64 g.f4.f2, .string g.f4.f3, .int .u64 g.f5, .slice B g.f6.length d] TFr (0, 0)), (p3, .cells #[.int .i64 f.f0, .int .i64 f.f1, .bool f.f2, .string f.f3, .int .i64 f.f4.f0, .int .i64 f.f4.f1, .int .i64 f.f4.f2, .string f.f4.f3, .int .u64 f.f5, .slice A f.f6.length c] TFr (0, 0))] nil tt [V kSe (.slice A9 o.f6.length c9) o.f6, V kSe (.slice A2 0 c2) [], V kSe (.slice B g.f6.length d) g.f6, V kSe (.slice A f.f6.length c) f.f6] w10 := S
      have HEO := Aside0.mk (fun (z : World) (v : (V kSe (.slice A9 o.f6.length c9) o.f6).P z (fun _ => True)) => by have h := enc_kn (by have := LO.out; omega) HO.out.2.2 HO.out.2.1 HO.out.1 v; rw [heo] at h; exact h)
      clear heo
      have o_0 : w10.cell? ⟨p13, 0, none⟩ = some (.int .i64 o.f0) := S.cell 0 0 rfl rfl
      have o_1 : w10.cell? ⟨p13, 1, none⟩ = some (.int .i64 o.f1) := S.cell 0 1 rfl rfl
      have o_2 : w10.cell? ⟨p13, 2, none⟩ = some (.bool o.f2) := S.cell 0 2 rfl rfl
      have o_3 : w10.cell? ⟨p13, 3, none⟩ = some (.string o.f3) := S.cell 0 3 rfl rfl
      have o_4 : w10.cell? ⟨p13, 4, none⟩ = some (.int .i64 o.f4.f0) := S.cell 0 4 rfl rfl
      have o_5 : w10.cell? ⟨p13, 5, none⟩ = some (.int .i64 o.f4.f1) := S.cell 0 5 rfl rfl
      have o_6 : w10.cell? ⟨p13, 6, none⟩ = some (.int .i64 o.f4.f2) := S.cell 0 6 rfl rfl
      have o_7 : w10.cell? ⟨p13, 7, none⟩ = some (.string o.f4.f3) := S.cell 0 7 rfl rfl
      have o_8 : w10.cell? ⟨p13, 8, none⟩ = some (.int .u64 o.f5) := S.cell 0 8 rfl rfl
      have o_9 : w10.cell? ⟨p13, 9, none⟩ = some (.slice A9 o.f6.length c9) := S.cell 0 9 rfl rfl
      go_wp2_with fail
      refine (HEO.out _ (Ft.all (S.ft 0 rfl))).mono ?_
      rintro e w11 ⟨rfl, hb⟩
      replace S := S.below hb
      clear o_0 o_1 o_2 o_3 o_4 o_5 o_6 o_7 o_8 o_9 hb HEO
      go_wp2_with fail
      refine (live_walk w11).mono ?_
      rintro e wl ⟨rfl, bl⟩
      go_wp2
      go_ret
      exact ⟨rfl, below_step S.bel bl⟩
     ·obtain rfl : o = zF := HD1.out he
      have heb : (e != 0) = true := bne_iff_ne.mpr he
      have hec : (e == 0) = false := beq_eq_false_iff_ne.mpr he
      clear he
      go_wp2_with fail
      refine (HDS.out _).mono ?_
      rintro e w9 ⟨A9, c9, rfl, hV, hb⟩
      replace S := S.call (f := (V kSe (.slice A9 0 c9) [])) hb (Ft.mono _ hV (fun k hk => Or.inr hk))
      clear hb hV HDS
      go_upto_region 13 with (fail)
      generalize hg : World.alloc _ _ = w10
      replace S := S.new hg
      clear hg
      generalize w9.heap.size = p13 at S ⊢
      replace S : Kn ok w0 [(p13, .cells #[.int .i64 0, .int .i64 0, .bool false, .string ⟨#[]⟩, .int .i64 0, .int .i64 0, .int .i64 0, .string ⟨#[]⟩, .int .u64 0, .slice A9 0 c9] TFr (0, 0)), (p9, .cells #[.int .i64 0, .int .i64 0, .bool false, .string ⟨#[]⟩, .int .i64 0, .int .i64 0, .int .i64 0, .string ⟨#[]⟩, .int .u64 0, .slice A2 0 c2] TFr (0, 0)), (p4, .cells #[.int .i64 g.f0, .int .i64 g.f1, .bool g.f2, .string g.f3, .int .i64 g.f4.f0, .int .i64 g.f4.f1, .int .i64 g.f4.f2, .string g.f4.f3, .int .u64 g.f5, .slice B g.f6.length d] TFr (0, 0)), (p3, .cells #[.int .i64 f.f0, .int .i64 f.f1, .bool f.f2, .string f.f3, .int .i64 f.f4.f0, .int .i64 f.f4.f1, .int .i64 f.f4.f2, .string f.f4.f3, .int .u64 f.f5, .slice A f.f6.length c] TFr (0, 0))] nil tt [V kSe (.slice A9 0 c9) [], V kSe (.slice A2 0 c2) [], V kSe (.slice B g.f6.length d) g.f6, V kSe (.slice A f.f6.length c) f.f6] w10 := S
      have o_0 : w10.cell? ⟨p13, 0, none⟩ = some (.int .i64 0) := S.cell 0 0 rfl rfl
      have o_1 : w10.cell? ⟨p13, 1, none⟩ = some (.int .i64 0) := S.cell 0 1 rfl rfl
      have o_2 : w10.cell? ⟨p13, 2, none⟩ = some (.bool false) := S.cell 0 2 rfl rfl
      have o_3 : w10.cell? ⟨p13, 3, none⟩ = some (.string ⟨#[]⟩) := S.cell 0 3 rfl rfl
      have o_4 : w10.cell? ⟨p13, 4, none⟩ = some (.int .i64 0) := S.cell 0 4 rfl rfl
      have o_5 : w10.cell? ⟨p13, 5, none⟩ = some (.int .i64 0) := S.cell 0 5 rfl rfl
      have o_6 : w10.cell? ⟨p13, 6, none⟩ = some (.int .i64 0) := S.cell 0 6 rfl rfl
      have o_7 : w10.cell? ⟨p13, 7, none⟩ = some (.string ⟨#[]⟩) := S.cell 0 7 rfl rfl
      have o_8 : w10.cell? ⟨p13, 8, none⟩ = some (.int .u64 0) := S.cell 0 8 rfl rfl
      have o_9 : w10.cell? ⟨p13, 9, none⟩ = some (.slice A9 0 c9) := S.cell 0 9 rfl rfl
      go_wp2_with fail
      refine (Ez _ (Ft.all (S.ft 0 rfl))).mono ?_
      rintro e w11 ⟨rfl, hb⟩
      replace S := S.below hb
      clear o_0 o_1 o_2 o_3 o_4 o_5 o_6 o_7 o_8 o_9 hb
      have o_0 : w11.cell? ⟨p13, 0, none⟩ = some (.int .i64 0) := S.cell 0 0 rfl rfl
      have o_1 : w11.cell? ⟨p13, 1, none⟩ = some (.int .i64 0) := S.cell 0 1 rfl rfl
      have o_2 : w11.cell? ⟨p13, 2, none⟩ = some (.bool false) := S.cell 0 2 rfl rfl
      have o_3 : w11.cell? ⟨p13, 3, none⟩ = some (.string ⟨#[]⟩) := S.cell 0 3 rfl rfl
      have o_4 : w11.cell? ⟨p13, 4, none⟩ = some (.int .i64 0) := S.cell 0 4 rfl rfl
      have o_5 : w11.cell? ⟨p13, 5, none⟩ = some (.int .i64 0) := S.cell 0 5 rfl rfl
      have o_6 : w11.cell? ⟨p13, 6, none⟩ = some (.int .i64 0) := S.cell 0 6 rfl rfl
      have o_7 : w11.cell? ⟨p13, 7, none⟩ = some (.string ⟨#[]⟩) := S.cell 0 7 rfl rfl
      have o_8 : w11.cell? ⟨p13, 8, none⟩ = some (.int .u64 0) := S.cell 0 8 rfl rfl
      have o_9 : w11.cell? ⟨p13, 9, none⟩ = some (.slice A9 0 c9) := S.cell 0 9 rfl rfl
      go_wp2_with fail
      refine (Szz _ (Ft.all (S.ft 0 rfl))).mono ?_
      rintro e w12 ⟨rfl, hb⟩
      replace S := S.below hb
      clear o_0 o_1 o_2 o_3 o_4 o_5 o_6 o_7 o_8 o_9 hb
      go_wp2_with fail
      refine (live_walk w12).mono ?_
      rintro e wl ⟨rfl, bl⟩
      go_wp2
      go_ret
      exact ⟨rfl, below_step S.bel bl⟩
    ·have e2 : encF g = (⟨#[]⟩, 1) := by unfold encF; rw [if_neg hm2]
     rw [e2] at HPEG
     clear e2 hm2
     have g_0 : w7.cell? ⟨p4, 0, none⟩ = some (.int .i64 g.f0) := S.cell 1 0 rfl rfl
     have g_1 : w7.cell? ⟨p4, 1, none⟩ = some (.int .i64 g.f1) := S.cell 1 1 rfl rfl
     have g_2 : w7.cell? ⟨p4, 2, none⟩ = some (.bool g.f2) := S.cell 1 2 rfl rfl
     have g_3 : w7.cell? ⟨p4, 3, none⟩ = some (.string g.f3) := S.cell 1 3 rfl rfl
     have g_4 : w7.cell? ⟨p4, 4, none⟩ = some (.int .i64 g.f4.f0) := S.cell 1 4 rfl rfl
     have g_5 : w7.cell? ⟨p4, 5, none⟩ = some (.int .i64 g.f4.f1) := S.cell 1 5 rfl rfl
     have g_6 : w7.cell? ⟨p4, 6, none⟩ = some (.int .i64 g.f4.f2) := S.cell 1 6 rfl rfl
     have g_7 : w7.cell? ⟨p4, 7, none⟩ = some (.string g.f4.f3) := S.cell 1 7 rfl rfl
     have g_8 : w7.cell? ⟨p4, 8, none⟩ = some (.int .u64 g.f5) := S.cell 1 8 rfl rfl
     have g_9 : w7.cell? ⟨p4, 9, none⟩ = some (.slice B g.f6.length d) := S.cell 1 9 rfl rfl
     go_wp2_with fail
     refine (HPEG.out _ (Ft.all (S.ft 1 rfl))).mono ?_
     rintro e w8 ⟨rfl, hb⟩
     replace S := S.below hb
     clear g_0 g_1 g_2 g_3 g_4 g_5 g_6 g_7 g_8 g_9 hb HPEG
     by_cases he : e = 0
     ·subst he
      obtain ⟨ho, hl, heo⟩ := HD0.out rfl
      have HO := Aside0.mk ho
      have LO := Aside0.mk hl
      clear ho hl
      go_wp2_with fail
      refine (HDS.out _).mono ?_
      rintro e w9 ⟨A9, c9, rfl, hV, hb⟩
      replace S := S.call (f := (V kSe (.slice A9 o.f6.length c9) o.f6)) hb (Ft.mono _ hV (fun k hk => Or.inr hk))
      clear hb hV HDS
      go_upto_region 13 with (fail)
      generalize hg : World.alloc _ _ = w10
      replace S := S.new hg
      clear hg
      generalize w9.heap.size = p13 at S ⊢
      replace S : Kn ok w0 [(p13, .cells #[.int .i64 o.f0, .int .i64 o.f1, .bool o.f2, .string o.f3, .int .i64 o.f4.f0, .int .i64 o.f4.f1, .int .i64 o.f4.f2, .string o.f4.f3, .int .u64 o.f5, .slice A9 o.f6.length c9] TFr (0, 0)), (p9, .cells #[.int .i64 0, .int .i64 0, .bool false, .string ⟨#[]⟩, .int .i64 0, .int .i64 0, .int .i64 0, .string ⟨#[]⟩, .int .u64 0, .slice A2 0 c2] TFr (0, 0)), (p4, .cells #[.int .i64 g.f0, .int .i64 g.f1, .bool g.f2, .string g.f3, .int .i64 g.f4.f0, .int .i64 g.f4.f1, .int .i64 g.f4.f2, .string g.f4.f3, .int .u64 g.f5, .slice B g.f6.length d] TFr (0, 0)), (p3, .cells #[.int .i64 f.f0, .int .i64 f.f1, .bool f.f2, .string f.f3, .int .i64 f.f4.f0, .int .i64 f.f4.f1, .int .i64 f.f4.f2, .string f.f4.f3, .int .u64 f.f5, .slice A f.f6.length c] TFr (0, 0))] nil tt [V kSe (.slice A9 o.f6.length c9) o.f6, V kSe (.slice A2 0 c2) [], V kSe (.slice B g.f6.length d) g.f6, V kSe (.slice A f.f6.length c) f.f6] w10 := S
      have HEO := Aside0.mk (fun (z : World) (v : (V kSe (.slice A9 o.f6.length c9) o.f6).P z (fun _ => True)) => by have h := enc_kn (by have := LO.out; omega) HO.out.2.2 HO.out.2.1 HO.out.1 v; rw [heo] at h; exact h)
      clear heo
      have o_0 : w10.cell? ⟨p13, 0, none⟩ = some (.int .i64 o.f0) := S.cell 0 0 rfl rfl
      have o_1 : w10.cell? ⟨p13, 1, none⟩ = some (.int .i64 o.f1) := S.cell 0 1 rfl rfl
      have o_2 : w10.cell? ⟨p13, 2, none⟩ = some (.bool o.f2) := S.cell 0 2 rfl rfl
      have o_3 : w10.cell? ⟨p13, 3, none⟩ = some (.string o.f3) := S.cell 0 3 rfl rfl
      have o_4 : w10.cell? ⟨p13, 4, none⟩ = some (.int .i64 o.f4.f0) := S.cell 0 4 rfl rfl
      have o_5 : w10.cell? ⟨p13, 5, none⟩ = some (.int .i64 o.f4.f1) := S.cell 0 5 rfl rfl
      have o_6 : w10.cell? ⟨p13, 6, none⟩ = some (.int .i64 o.f4.f2) := S.cell 0 6 rfl rfl
      have o_7 : w10.cell? ⟨p13, 7, none⟩ = some (.string o.f4.f3) := S.cell 0 7 rfl rfl
      have o_8 : w10.cell? ⟨p13, 8, none⟩ = some (.int .u64 o.f5) := S.cell 0 8 rfl rfl
      have o_9 : w10.cell? ⟨p13, 9, none⟩ = some (.slice A9 o.f6.length c9) := S.cell 0 9 rfl rfl
      go_wp2_with fail
      refine (HEO.out _ (Ft.all (S.ft 0 rfl))).mono ?_
      rintro e w11 ⟨rfl, hb⟩
      replace S := S.below hb
      clear o_0 o_1 o_2 o_3 o_4 o_5 o_6 o_7 o_8 o_9 hb HEO
      go_wp2_with fail
      refine (live_walk w11).mono ?_
      rintro e wl ⟨rfl, bl⟩
      go_wp2
      go_ret
      exact ⟨rfl, below_step S.bel bl⟩
     ·obtain rfl : o = zF := HD1.out he
      have heb : (e != 0) = true := bne_iff_ne.mpr he
      have hec : (e == 0) = false := beq_eq_false_iff_ne.mpr he
      clear he
      go_wp2_with fail
      refine (HDS.out _).mono ?_
      rintro e w9 ⟨A9, c9, rfl, hV, hb⟩
      replace S := S.call (f := (V kSe (.slice A9 0 c9) [])) hb (Ft.mono _ hV (fun k hk => Or.inr hk))
      clear hb hV HDS
      go_upto_region 13 with (fail)
      generalize hg : World.alloc _ _ = w10
      replace S := S.new hg
      clear hg
      generalize w9.heap.size = p13 at S ⊢
      replace S : Kn ok w0 [(p13, .cells #[.int .i64 0, .int .i64 0, .bool false, .string ⟨#[]⟩, .int .i64 0, .int .i64 0, .int .i64 0, .string ⟨#[]⟩, .int .u64 0, .slice A9 0 c9] TFr (0, 0)), (p9, .cells #[.int .i64 0, .int .i64 0, .bool false, .string ⟨#[]⟩, .int .i64 0, .int .i64 0, .int .i64 0, .string ⟨#[]⟩, .int .u64 0, .slice A2 0 c2] TFr (0, 0)), (p4, .cells #[.int .i64 g.f0, .int .i64 g.f1, .bool g.f2, .string g.f3, .int .i64 g.f4.f0, .int .i64 g.f4.f1, .int .i64 g.f4.f2, .string g.f4.f3, .int .u64 g.f5, .slice B g.f6.length d] TFr (0, 0)), (p3, .cells #[.int .i64 f.f0, .int .i64 f.f1, .bool f.f2, .string f.f3, .int .i64 f.f4.f0, .int .i64 f.f4.f1, .int .i64 f.f4.f2, .string f.f4.f3, .int .u64 f.f5, .slice A f.f6.length c] TFr (0, 0))] nil tt [V kSe (.slice A9 0 c9) [], V kSe (.slice A2 0 c2) [], V kSe (.slice B g.f6.length d) g.f6, V kSe (.slice A f.f6.length c) f.f6] w10 := S
      have o_0 : w10.cell? ⟨p13, 0, none⟩ = some (.int .i64 0) := S.cell 0 0 rfl rfl
      have o_1 : w10.cell? ⟨p13, 1, none⟩ = some (.int .i64 0) := S.cell 0 1 rfl rfl
      have o_2 : w10.cell? ⟨p13, 2, none⟩ = some (.bool false) := S.cell 0 2 rfl rfl
      have o_3 : w10.cell? ⟨p13, 3, none⟩ = some (.string ⟨#[]⟩) := S.cell 0 3 rfl rfl
      have o_4 : w10.cell? ⟨p13, 4, none⟩ = some (.int .i64 0) := S.cell 0 4 rfl rfl
      have o_5 : w10.cell? ⟨p13, 5, none⟩ = some (.int .i64 0) := S.cell 0 5 rfl rfl
      have o_6 : w10.cell? ⟨p13, 6, none⟩ = some (.int .i64 0) := S.cell 0 6 rfl rfl
      have o_7 : w10.cell? ⟨p13, 7, none⟩ = some (.string ⟨#[]⟩) := S.cell 0 7 rfl rfl
      have o_8 : w10.cell? ⟨p13, 8, none⟩ = some (.int .u64 0) := S.cell 0 8 rfl rfl
      have o_9 : w10.cell? ⟨p13, 9, none⟩ = some (.slice A9 0 c9) := S.cell 0 9 rfl rfl
      go_wp2_with fail
      refine (Ez _ (Ft.all (S.ft 0 rfl))).mono ?_
      rintro e w11 ⟨rfl, hb⟩
      replace S := S.below hb
      clear o_0 o_1 o_2 o_3 o_4 o_5 o_6 o_7 o_8 o_9 hb
      have o_0 : w11.cell? ⟨p13, 0, none⟩ = some (.int .i64 0) := S.cell 0 0 rfl rfl
      have o_1 : w11.cell? ⟨p13, 1, none⟩ = some (.int .i64 0) := S.cell 0 1 rfl rfl
      have o_2 : w11.cell? ⟨p13, 2, none⟩ = some (.bool false) := S.cell 0 2 rfl rfl
      have o_3 : w11.cell? ⟨p13, 3, none⟩ = some (.string ⟨#[]⟩) := S.cell 0 3 rfl rfl
      have o_4 : w11.cell? ⟨p13, 4, none⟩ = some (.int .i64 0) := S.cell 0 4 rfl rfl
      have o_5 : w11.cell? ⟨p13, 5, none⟩ = some (.int .i64 0) := S.cell 0 5 rfl rfl
      have o_6 : w11.cell? ⟨p13, 6, none⟩ = some (.int .i64 0) := S.cell 0 6 rfl rfl
      have o_7 : w11.cell? ⟨p13, 7, none⟩ = some (.string ⟨#[]⟩) := S.cell 0 7 rfl rfl
      have o_8 : w11.cell? ⟨p13, 8, none⟩ = some (.int .u64 0) := S.cell 0 8 rfl rfl
      have o_9 : w11.cell? ⟨p13, 9, none⟩ = some (.slice A9 0 c9) := S.cell 0 9 rfl rfl
      go_wp2_with fail
      refine (Szz _ (Ft.all (S.ft 0 rfl))).mono ?_
      rintro e w12 ⟨rfl, hb⟩
      replace S := S.below hb
      clear o_0 o_1 o_2 o_3 o_4 o_5 o_6 o_7 o_8 o_9 hb
      go_wp2_with fail
      refine (live_walk w12).mono ?_
      rintro e wl ⟨rfl, bl⟩
      go_wp2
      go_ret
      exact ⟨rfl, below_step S.bel bl⟩
theorem frameBack_walk (a0 a1 : Int) (a2 : Bool) (a3 : ByteArray) (a4 a5 a6 : Int) (a7 : ByteArray) (a8 : Int) (aA : Option Addr) (ac : Nat) (al : List Se) (b0 b1 : Int) (b2 : Bool) (b3 : ByteArray) (b4 b5 b6 : Int) (b7 : ByteArray) (b8 : Int) (bA : Option Addr) (bc : Nat) (bl : List Se) (s : ByteArray) (w : World) (har : Kd.C kSe w aA al.length al) (hac : al.length ≤ ac) (hbr : Kd.C kSe w bA bl.length bl) (hbc : bl.length ≤ bc) (_a0 : (Lit.int .i64 a0).wf = true) (_a1 : (Lit.int .i64 a1).wf = true) (wa3 : a3.size ≤ maxLen) (_a4 : (Lit.int .i64 a4).wf = true) (_a5 : (Lit.int .i64 a5).wf = true) (_a6 : (Lit.int .i64 a6).wf = true) (_a7 : a7.size ≤ maxLen) (wa8 : (Lit.int .u64 a8).wf = true) (_al : al.length ≤ maxLen) (wal : ∀ y ∈ al, Ok52 y) (_b0 : (Lit.int .i64 b0).wf = true) (_b1 : (Lit.int .i64 b1).wf = true) (wb3 : b3.size ≤ maxLen) (_b4 : (Lit.int .i64 b4).wf = true) (_b5 : (Lit.int .i64 b5).wf = true) (_b6 : (Lit.int .i64 b6).wf = true) (_b7 : b7.size ≤ maxLen) (wb8 : (Lit.int .u64 b8).wf = true) (_bl : bl.length ≤ maxLen) (wbl : ∀ y ∈ bl, Ok52 y) (_ws : s.size ≤ 140737488351232) :
  Calls Try.prog 5 #[.agg #[.int .i64 a0, .int .i64 a1, .bool a2, .string a3, .int .i64 a4, .int .i64 a5, .int .i64 a6, .string a7, .int .u64 a8, .slice aA al.length ac], .agg #[.int .i64 b0, .int .i64 b1, .bool b2, .string b3, .int .i64 b4, .int .i64 b5, .int .i64 b6, .string b7, .int .u64 b8, .slice bA bl.length bc], .string s] w fun e w' => e = .returned (.bool true) ∧ Below w.heap.size w w' :=
 frameBack_go (fun _ => True) ⟨a0, a1, a2, a3, ⟨a4, a5, a6, a7⟩, a8, al⟩ ⟨b0, b1, b2, b3, ⟨b4, b5, b6, b7⟩, b8, bl⟩ aA bA ac bc s (by refine ⟨XBytes.wf_u64 wa8, ?_, fun x hx => ?_⟩; (show a3.size ≤ _; unfold maxLen at wa3; omega); (have := (wal x hx).1; unfold maxLen at this; omega)) (by refine ⟨XBytes.wf_u64 wb8, ?_, fun x hx => ?_⟩; (show b3.size ≤ _; unfold maxLen at wb3; omega); (have := (wbl x hx).1; unfold maxLen at this; omega)) w w (Kn.enter _ w (by simp only [List.mem_cons, List.not_mem_nil, or_false]; rintro q (rfl | rfl); exact Im.of_C kSe_heap hbr hbc; exact Im.of_C kSe_heap har hac))
end Go.Proofs.Ytjccgdnnnlgeeaa.XHand
end
section
-- Written by a program of this session (wip/tools/xprint.py), which drives the kit's print.
namespace Go.Proofs.Ytjccgdnnnlgeeaa.frameBack
open Go.ChangeShapes Go.WideShapes Go.ChangeAt Go.RowKit Go.Proofs.YtjccgdnnnlgeeaaW.PrintWords Go.Proofs.YtjccgdnnnlgeeaaW.PrintLast Go.Proofs.YtjccgdnnnlgeeaaW.PrintMore Go.Proofs.Ytjccgdnnnlgeeaa.XOpen Go.Proofs.Ytjccgdnnnlgeeaa.PA
open Go.ChangeMaps (open_string shut_string)
set_option linter.unusedVariables false
set_option linter.unusedSimpArgs false
theorem own : ownKnob Try.prog.godebug = none := by kernel_rfl
theorem laidOut : laidOutB Try.prog = true := by kernel_rfl
theorem opens23 : Opens Try.prog 23 k23 Ok23 := Opens.iso (Opens.struct [3, 3, 3, 9] [1, 1, 1, 1] Try.underlying23 (by kernel_rfl) (by kernel_rfl) (by kernel_rfl) (by kernel_rfl) (OpensL.cons (Opens.int Try.underlying3) (OpensL.cons (Opens.int Try.underlying3) (OpensL.cons (Opens.int Try.underlying3) (OpensL.one (Opens.string Try.underlying9)))))) (fun x : S23 => (x.f0, x.f1, x.f2, x.f3)) (fun a => (⟨a.1, a.2.1, a.2.2.1, a.2.2.2⟩ : S23)) (fun _ => rfl)
theorem opens52 : Opens Try.prog 52 k52 Ok52 := Opens.iso (Opens.struct [9, 23] [1, 4] Try.underlying52 (by kernel_rfl) (by kernel_rfl) (by kernel_rfl) (by kernel_rfl) (OpensL.cons (Opens.string Try.underlying9) (OpensL.one opens23))) (fun x : S52 => (x.f0, x.f1)) (fun a => (⟨a.1, a.2⟩ : S52)) (fun _ => rfl)
theorem opens27 : Opens Try.prog 27 k27 Ok27 := Opens.iso (Opens.struct [3, 3, 4, 9, 23, 24, 25] [1, 1, 1, 1, 4, 1, 1] Try.underlying27 (by kernel_rfl) (by kernel_rfl) (by kernel_rfl) (by kernel_rfl) (OpensL.cons (Opens.int Try.underlying3) (OpensL.cons (Opens.int Try.underlying3) (OpensL.cons (Opens.bool Try.underlying4) (OpensL.cons (Opens.string Try.underlying9) (OpensL.cons opens23 (OpensL.cons (Opens.int Try.underlying24) (OpensL.one (Opens.slice Try.underlying25 (by kernel_rfl) z52 opens52))))))))) (fun x : S27 => (x.f0, x.f1, x.f2, x.f3, x.f4, x.f5, x.f6)) (fun a => (⟨a.1, a.2.1, a.2.2.1, a.2.2.2.1, a.2.2.2.2.1, a.2.2.2.2.2.1, a.2.2.2.2.2.2⟩ : S27)) (fun _ => rfl)
set_option maxRecDepth 100000 in
theorem lifted (os : Os) (started : os.Started) (H : Type) (enc : TypeId × Value → H) :
  ReturnsInHanded {} Try.checked os 5 .any (Rows.frameBackSpec.pre6 enc Try.prog Try.f5 Rows.frameBackRow.domain false) (Rows.frameBackSpec.post enc Try.prog Try.f5 false true false false) := by
 refine returnsInHanded_of_change_sized (C := Try.checked) own started (by kernel_rfl) Try.func5
  (ChangeSpec.witness6 (enc := enc) (C := Try.checked) false ⟨#[], #[.agg #[.int .i64 0, .int .i64 0, .bool false, .string ByteArray.empty, .int .i64 0, .int .i64 0, .int .i64 0, .string ByteArray.empty, .int .u64 0, .slice none 0 0], .agg #[.int .i64 0, .int .i64 0, .bool false, .string ByteArray.empty, .int .i64 0, .int .i64 0, .int .i64 0, .string ByteArray.empty, .int .u64 0, .slice none 0 0], .string ByteArray.empty], []⟩ 8 (by kernel_rfl) (by kernel_rfl) (by kernel_rfl) (by kernel_rfl)) ?_
 intro W base args ds gs before hval0 hW hcnd hsz0 _
 have hsz : (DataW.weightsEach Try.prog (Try.f5.params.toList ++ Rows.frameBackSpec.plain.varTypes Try.prog) (ds ++ gs)).all (· ≤ reachBytes) = true := hsz0
 have hval : ∀ (j : Nat) t v, Try.f5.params[j]? = some t → args[j]? = some v → Value.okWide Try.prog W .any base t v := hval0
 have hW' := hW
 obtain ⟨p, q, hA0, hV, rfl, hfz, hnd⟩ := hW
 have hA : DataW.TrodAll enc Try.prog W 0 (fun _ => true) true Try.f5.params.toList args.toList ds p := hA0
 rw [Try.params5] at hA hval hsz
 obtain ⟨v0, vs0, d0, ds0, p0, q0, hargs, rfl, rfl, h0, r0⟩ := trodAll_cons hA
 obtain ⟨v1, vs1, d1, ds1, p1, q1, rfl, rfl, rfl, h1, r1⟩ := trodAll_cons r0
 obtain ⟨v2, vs2, d2, ds2, p2, q2, rfl, rfl, rfl, h2, r2⟩ := trodAll_cons r1
 obtain ⟨rfl, rfl, rfl⟩ := trodAll_nil r2
 obtain rfl : args = #[v0, v1, v2] := by cases args; simp_all
 obtain ⟨rfl, rfl⟩ := trodVars_none hV
 have k0 := h0
 have lt0 : ∀ x ∈ p0, x.block < W.heap.size := by obtain ⟨m, hm⟩ := k0; exact DataW.trod_lt m _ _ _ hm
 obtain ⟨cs0, rfl, hs0⟩ := okWide_struct Try.underlying27 (hval 0 27 v0 rfl rfl)
 obtain ⟨x0, g0, o0⟩ : ∃ x, k27.K W x cs0.toList ∧ Ok27 x := by
  obtain ⟨fuel, hf⟩ := h0
  exact opens27 enc W 0 _ true fuel _ _ hf
 obtain ⟨A0_9, c0_9, e0, hc0_9, hr0_9⟩ := k27_open g0
 obtain rfl : cs0 = #[.int .i64 x0.f0, .int .i64 x0.f1, .bool x0.f2, .string x0.f3, .int .i64 x0.f4.f0, .int .i64 x0.f4.f1, .int .i64 x0.f4.f2, .string x0.f4.f3, .int .u64 x0.f5, .slice A0_9 (x0.f6).length c0_9] := Array.toList_inj.1 e0
 have k1 := h1
 have lt1 : ∀ x ∈ p1, x.block < W.heap.size := by obtain ⟨m, hm⟩ := k1; exact DataW.trod_lt m _ _ _ hm
 obtain ⟨cs1, rfl, hs1⟩ := okWide_struct Try.underlying27 (hval 1 27 v1 rfl rfl)
 obtain ⟨x1, g1, o1⟩ : ∃ x, k27.K W x cs1.toList ∧ Ok27 x := by
  obtain ⟨fuel, hf⟩ := h1
  exact opens27 enc W 0 _ true fuel _ _ hf
 obtain ⟨A1_9, c1_9, e1, hc1_9, hr1_9⟩ := k27_open g1
 obtain rfl : cs1 = #[.int .i64 x1.f0, .int .i64 x1.f1, .bool x1.f2, .string x1.f3, .int .i64 x1.f4.f0, .int .i64 x1.f4.f1, .int .i64 x1.f4.f2, .string x1.f4.f3, .int .u64 x1.f5, .slice A1_9 (x1.f6).length c1_9] := Array.toList_inj.1 e1
 obtain ⟨a2, rfl, rfl, rfl, y2⟩ := open_string Try.underlying9 (hval 2 9 v2 rfl rfl) h2
 have w2 : a2.size ≤ 140737488351232 := by
  have z := sized_string hsz (j := 2) (t := 9) rfl rfl
  rw [Array.length_toList] at z
  exact z
 clear hA0 hval0 hsz0 hsz
 refine (Go.Proofs.Ytjccgdnnnlgeeaa.XHand.frameBack_walk (x0.f0) (x0.f1) (x0.f2) (x0.f3) (x0.f4.f0) (x0.f4.f1) (x0.f4.f2) (x0.f4.f3) (x0.f5) _ _ (x0.f6) (x1.f0) (x1.f1) (x1.f2) (x1.f3) (x1.f4.f0) (x1.f4.f1) (x1.f4.f2) (x1.f4.f3) (x1.f5) _ _ (x1.f6) a2 W hr0_9 hc0_9 hr1_9 hc1_9 o0.1 o0.2.1 o0.2.2.2.1 o0.2.2.2.2.1.1 o0.2.2.2.2.1.2.1 o0.2.2.2.2.1.2.2.1 o0.2.2.2.2.1.2.2.2 o0.2.2.2.2.2.1 o0.2.2.2.2.2.2.1 o0.2.2.2.2.2.2.2 o1.1 o1.2.1 o1.2.2.2.1 o1.2.2.2.2.1.1 o1.2.2.2.2.1.2.1 o1.2.2.2.2.1.2.2.1 o1.2.2.2.2.1.2.2.2 o1.2.2.2.2.2.1 o1.2.2.2.2.2.2.1 o1.2.2.2.2.2.2.2 w2).mono fun e W' ⟨he, bel⟩ => ?_
 subst he
 exact ⟨_, rfl, _, _, _, [], _, [], hW', trodAll_mk1 (shut_bool Try.underlying4 _), (trodAll_cons_mk (Below.trod laidOut (by kernel_rfl) (of_decide_eq_true (by kernel_rfl)) k0 bel lt0) (trodAll_cons_mk (Below.trod laidOut (by kernel_rfl) (of_decide_eq_true (by kernel_rfl)) k1 bel lt1) (trodAll_cons_mk (shut_string Try.underlying9 y2) trodAll_mk0))), rfl, bel.frame _, fun h => by cases h⟩
theorem over : Rows.frameBackRow.holds Try.pinned (OpenSpec.ofChange Rows.frameBackSpec) :=
 OpenClaim.holds_of_wide 5 Try.f5 rfl rfl rfl rfl rfl rfl rfl ⟨rfl, rfl, rfl, rfl, rfl⟩ rfl rfl rfl rfl rfl (by kernel_rfl) Try.func5 (by kernel_rfl)
  (of_decide_eq_true (by kernel_rfl)) (by unfold Func.isWrapper; first | (rw [if_pos (by decide +kernel)]; kernel_rfl) | (rw [if_neg (by decide +kernel)]; exact ⟨rfl, rfl⟩))
  (fun os started H enc _ => lifted os started H enc)
theorem proved : Rows.FrameBackSaid := over
#print axioms proved
end Go.Proofs.Ytjccgdnnnlgeeaa.frameBack
namespace Go.Proofs.Ytjccgdnnnlgeeaa
/-- The row, under a short name, for the claim. -/
theorem frameBack_holds : Rows.FrameBackSaid := frameBack.proved
end Go.Proofs.Ytjccgdnnnlgeeaa
end
