/- law of LinkTold: the row, by its walk. -/
import Derived.Test.YtmigglldahkngaaBLinkTold4
section
/- law18's LinkTold, walked: whoever takes the frames, one behind the other, has the view, but for what waits. -/
namespace Go.Proofs.Ytmigglldahkngaa.XHand
open Go.RowKit Go.Proofs.YtmigglldahkngaaW.PrintWords Go.Proofs.YtmigglldahkngaaW.PrintLast Go.Proofs.YtmigglldahkngaaW.PrintMore Go.Proofs.Ytmigglldahkngaa.PA Go.Proofs.Ytmigglldahkngaa.XMem Go.Proofs.Ytmigglldahkngaa.XSt Go.Proofs.Ytmigglldahkngaa.XKn Go.Proofs.Ytmigglldahkngaa.XQuiet Go.Proofs.Ytmigglldahkngaa.XTell
open Go.Proofs.Ytmigglldahkngaa.XSum (kSe Se)
open Go.Proofs.Ytmigglldahkngaa.XV17 (mayT mayK pushK newK newK_b quiet_b linkMayK refMayK same18 few18_f fewS_f changes_f)
set_option linter.unusedVariables false
set_option linter.unusedSimpArgs false
set_option maxRecDepth 100000
open Go.Proofs.Ytmigglldahkngaa.XV17 (refMayT_b time_b mayK_iff mayT_iff sameS_f rdF_at overQ overQ_len refOver_b refSet_b refSum_b setC rowOk)
set_option maxHeartbeats 8000000 in
theorem linkTold_go (ok : Nat → Prop) (c0 c1 c2 c3 : Int) (s : Int) (A : Option Addr) (cc : Nat) (q : List Ch) (lat : Bool) (tok at_ : Int) (sn : Bool) (dg : Int) (B : Option Addr) (mc : Nat) (t : List Se) (now : Int) (w0 w : World) (S : Kn ok w0 [] nil tt [V kSe (.slice B t.length mc) t, V kCh (.slice A q.length cc) q] w) (hqs : ∀ x ∈ q, x.f0.size ≤ 9223372036854775807) (hts : ∀ x ∈ t, x.f0.size ≤ 9223372036854775807) :
  Calls Try.prog 6 #[.agg #[.int .i64 c0, .int .i64 c1, .int .i64 c2, .int .i64 c3], .agg #[.int .i64 s, .slice A q.length cc, .bool lat, .int .i64 tok, .int .i64 at_, .bool sn, .int .i64 dg], .agg #[.slice B t.length mc, .int .i64 now]] w fun e w' => e = .returned (.bool true) ∧ Below w0.heap.size w0 w' := by
 obtain ⟨b0, hb0, hl0⟩ := few18_f 60 s q lat tok at_ sn dg (by omega)
 obtain ⟨b1, hb1, hl1⟩ := fewS_f 60 t (by omega)
 have F0 := Aside0.mk hb0
 have F1 := Aside0.mk hb1
 have H0 := Aside0.mk hl0
 have H1 := Aside0.mk hl1
 have HQ := Aside0.mk hqs
 have HT := Aside0.mk hts
 clear hb0 hb1 hl0 hl1 hqs hts
 go_enter Try.func6, Try.ntmps6
 go_upto_region 1 with (fail)
 generalize hg : World.alloc _ _ = w1
 replace S := S.new3 hg
 clear hg
 generalize w.heap.size + 2 = p5 at S ⊢
 generalize w.heap.size + 1 = p4 at S ⊢
 generalize w.heap.size = p3 at S ⊢
 replace S : Kn ok w0 [(p5, .cells #[.slice B t.length mc, .int .i64 now] 48 (0, 0)), (p4, .cells #[.int .i64 s, .slice A q.length cc, .bool lat, .int .i64 tok, .int .i64 at_, .bool sn, .int .i64 dg] TLk (0, 0)), (p3, .cells #[.int .i64 c0, .int .i64 c1, .int .i64 c2, .int .i64 c3] TCf (0, 0))] nil tt [V kSe (.slice B t.length mc) t, V kCh (.slice A q.length cc) q] w1 := S
 have l_0 : w1.cell? ⟨p4, 0, none⟩ = some (.int .i64 s) := S.cell 1 0 rfl rfl
 have l_1 : w1.cell? ⟨p4, 1, none⟩ = some (.slice A q.length cc) := S.cell 1 1 rfl rfl
 have l_2 : w1.cell? ⟨p4, 2, none⟩ = some (.bool lat) := S.cell 1 2 rfl rfl
 have l_3 : w1.cell? ⟨p4, 3, none⟩ = some (.int .i64 tok) := S.cell 1 3 rfl rfl
 have l_4 : w1.cell? ⟨p4, 4, none⟩ = some (.int .i64 at_) := S.cell 1 4 rfl rfl
 have l_5 : w1.cell? ⟨p4, 5, none⟩ = some (.bool sn) := S.cell 1 5 rfl rfl
 have l_6 : w1.cell? ⟨p4, 6, none⟩ = some (.int .i64 dg) := S.cell 1 6 rfl rfl
 go_wp2_with fail
 refine (rollcallref18_Few.kn 60 F0.out (S.ft 1 rfl)).mono ?_
 rintro e w2 ⟨rfl, hb⟩
 replace S := S.below hb
 clear l_0 l_1 l_2 l_3 l_4 l_5 l_6 hb
 cases b0 with
 | false =>
  go_wp2_with fail
  refine (live_walk w2).mono ?_
  rintro e wl ⟨rfl, bl⟩
  go_wp2
  go_ret
  exact ⟨rfl, below_step S.bel bl⟩
 | true =>
  have hq := H0.out rfl
  clear F0 H0
  have v_0 : w2.cell? ⟨p5, 0, none⟩ = some (.slice B t.length mc) := S.cell 0 0 rfl rfl
  go_wp2_with fail
  refine (rollcallref05_Few.kn 60 F1.out (S.ft 0 rfl)).mono ?_
  rintro e w3 ⟨rfl, hb⟩
  replace S := S.below hb
  clear v_0 hb
  cases b1 with
  | false =>
   go_wp2_with fail
   refine (live_walk w3).mono ?_
   rintro e wl ⟨rfl, bl⟩
   go_wp2
   go_ret
   exact ⟨rfl, below_step S.bel bl⟩
  | true =>
   have ht := H1.out rfl
   clear F1 H1
   obtain ⟨b2, hb2⟩ : ∃ b, b = mayK c0 c1 c2 c3 s q lat tok at_ sn dg := ⟨_, rfl⟩
   have F2 := Aside0.mk ((refMayK 200 c0 c1 c2 c3 s q lat tok at_ sn dg (by omega) (by omega)).trans (congrArg some hb2.symm))
   have H2 := Aside0.mk hb2
   obtain ⟨b3, hb3⟩ : ∃ b, b = mayT t := ⟨_, rfl⟩
   have F3 := Aside0.mk ((refMayT_b 200 t (by omega)).trans (congrArg some hb3.symm))
   have H3 := Aside0.mk hb3
   obtain ⟨b4, hb4⟩ : ∃ b, b = decide (0 ≤ now ∧ now ≤ 1099511627776) := ⟨_, rfl⟩
   have F4 := Aside0.mk ((time_b now).trans (congrArg some hb4.symm))
   have H4 := Aside0.mk hb4
   have HL := Aside0.mk (And.intro hq ht)
   clear hb2 hb3 hb4 hq ht
   have c_0 : w3.cell? ⟨p3, 0, none⟩ = some (.int .i64 c0) := S.cell 2 0 rfl rfl
   have c_1 : w3.cell? ⟨p3, 1, none⟩ = some (.int .i64 c1) := S.cell 2 1 rfl rfl
   have c_2 : w3.cell? ⟨p3, 2, none⟩ = some (.int .i64 c2) := S.cell 2 2 rfl rfl
   have c_3 : w3.cell? ⟨p3, 3, none⟩ = some (.int .i64 c3) := S.cell 2 3 rfl rfl
   have l_0 : w3.cell? ⟨p4, 0, none⟩ = some (.int .i64 s) := S.cell 1 0 rfl rfl
   have l_1 : w3.cell? ⟨p4, 1, none⟩ = some (.slice A q.length cc) := S.cell 1 1 rfl rfl
   have l_2 : w3.cell? ⟨p4, 2, none⟩ = some (.bool lat) := S.cell 1 2 rfl rfl
   have l_3 : w3.cell? ⟨p4, 3, none⟩ = some (.int .i64 tok) := S.cell 1 3 rfl rfl
   have l_4 : w3.cell? ⟨p4, 4, none⟩ = some (.int .i64 at_) := S.cell 1 4 rfl rfl
   have l_5 : w3.cell? ⟨p4, 5, none⟩ = some (.bool sn) := S.cell 1 5 rfl rfl
   have l_6 : w3.cell? ⟨p4, 6, none⟩ = some (.int .i64 dg) := S.cell 1 6 rfl rfl
   go_wp2_with fail
   refine (rollcallref18_May.kn 200 F2.out (S.ft 1 rfl)).mono ?_
   rintro e w4 ⟨rfl, hb⟩
   replace S := S.below hb
   clear c_0 c_1 c_2 c_3 l_0 l_1 l_2 l_3 l_4 l_5 l_6 hb
   cases b2 with
   | false =>
    go_wp2_with fail
    refine (live_walk w4).mono ?_
    rintro e wl ⟨rfl, bl⟩
    go_wp2
    go_ret
    exact ⟨rfl, below_step S.bel bl⟩
   | true =>
    have hm := Aside0.mk H2.out.symm
    clear F2 H2
    have v_0 : w4.cell? ⟨p5, 0, none⟩ = some (.slice B t.length mc) := S.cell 0 0 rfl rfl
    go_wp2_with fail
    refine (rollcallref05_May.kn 200 F3.out (S.ft 0 rfl)).mono ?_
    rintro e w5 ⟨rfl, hb⟩
    replace S := S.below hb
    clear v_0 hb
    cases b3 with
    | false =>
     go_wp2_with fail
     refine (live_walk w5).mono ?_
     rintro e wl ⟨rfl, bl⟩
     go_wp2
     go_ret
     exact ⟨rfl, below_step S.bel bl⟩
    | true =>
     have hmt := Aside0.mk H3.out.symm
     clear F3 H3
     have v_1 : w5.cell? ⟨p5, 1, none⟩ = some (.int .i64 now) := S.cell 0 1 rfl rfl
     go_wp2_with fail
     refine (rollcallref16_Time.kn F4.out).mono ?_
     rintro e w6 ⟨rfl, hb⟩
     replace S := S.below hb
     clear v_1 hb
     cases b4 with
     | false =>
      go_wp2_with fail
      refine (live_walk w6).mono ?_
      rintro e wl ⟨rfl, bl⟩
      go_wp2
      go_ret
      exact ⟨rfl, below_step S.bel bl⟩
     | true =>
      have hnw := Aside0.mk (of_decide_eq_true H4.out.symm)
      clear F4 H4
      obtain rfl : lat = false := ((mayK_iff _ _ _ _ _ _ _ _ _ _ _).1 hm.out).2.2.2.1
      replace S : Kn ok w0 [(p5, .cells #[.slice B t.length mc, .int .i64 now] 48 (0, 0)), (p4, .cells #[.int .i64 s, .slice A q.length cc, .bool false, .int .i64 tok, .int .i64 at_, .bool sn, .int .i64 dg] TLk (0, 0)), (p3, .cells #[.int .i64 c0, .int .i64 c1, .int .i64 c2, .int .i64 c3] TCf (0, 0))] nil tt [V kSe (.slice B t.length mc) t, V kCh (.slice A q.length cc) q] w6 := S
      have FO := Aside0.mk (refOver_b 7000 t q false (by have := HL.out.1; omega) (by have := HL.out.2; omega) (by omega))
      have hvl := overQ_len q t
      obtain ⟨vw, hvw⟩ : ∃ x, x = overQ t q := ⟨_, rfl⟩
      rw [← hvw] at FO hvl
      have HVW := Aside0.mk hvw
      clear hvw
      have v_0 : w6.cell? ⟨p5, 0, none⟩ = some (.slice B t.length mc) := S.cell 0 0 rfl rfl
      have l_1 : w6.cell? ⟨p4, 1, none⟩ = some (.slice A q.length cc) := S.cell 1 1 rfl rfl
      have l_2 : w6.cell? ⟨p4, 2, none⟩ = some (.bool false) := S.cell 1 2 rfl rfl
      go_wp2_with fail
      refine (rollcallref17_Over.kn 7000 FO.out (S.ft 0 rfl) (S.ft 1 rfl)).mono ?_
      rintro e w7 ⟨A1, e1, rfl, hV, hb⟩
      replace S := S.call (f := (V kSe (.slice A1 vw.length e1) vw)) hb hV
      clear v_0 l_1 l_2 hb hV FO
      obtain ⟨b5, hb5⟩ : ∃ b, b = mayT vw := ⟨_, rfl⟩
      have F5 := Aside0.mk ((refMayT_b 200 vw (by omega)).trans (congrArg some hb5.symm))
      have H5 := Aside0.mk hb5
      clear hb5
      go_wp2_with fail
      refine (rollcallref05_May.kn 200 F5.out (S.ft 0 rfl)).mono ?_
      rintro e w8 ⟨rfl, hb⟩
      replace S := S.below hb
      clear hb
      cases b5 with
      | false =>
       go_wp2_with fail
       refine (live_walk w8).mono ?_
       rintro e wl ⟨rfl, bl⟩
       go_wp2
       go_ret
       exact ⟨rfl, below_step S.bel bl⟩
      | true =>
       have hmv := Aside0.mk H5.out.symm
       clear F5 H5
       obtain ⟨hv32, hvr, _⟩ := (mayT_iff vw).1 hmv.out
       obtain ⟨R, hR, hfl, hql, hf6⟩ := emitK_all c0 c1 c2 c3 s q false tok at_ sn dg vw now (by have := HL.out.1; omega)
       have hRP : emitP c0 c1 c2 c3 now vw 50 ⟨s, q, sn, tok, at_, dg, []⟩ = some R := by have e := hR; unfold emitK at e; rw [if_pos ⟨hm.out, hmv.out, hnw.out⟩] at e; exact e
       obtain ⟨gs, hgs, hend, hfr⟩ := emit_told 50 ⟨s, q, sn, tok, at_, dg, []⟩ R (fun e => ((mayK_iff _ _ _ _ _ _ _ _ _ _ _).1 hm.out).2.2.2.2.2 e) hRP t HVW.out.symm
       rw [List.nil_append] at hgs
       subst hgs
       have hlen : (R.fs.length : Int) ≤ 32 := by have := HL.out.1; omega
       have FR := Aside0.mk hR
       have HQ2 := Aside0.mk (show q.length ≤ 40 by have := HL.out.1; omega)
       have HT2 := Aside0.mk (show vw.length ≤ 40 by omega)
       have HTS := Aside0.mk (show ∀ x ∈ vw, x.f0.size ≤ 9223372036854775807 from fun x hx => by have h := hvr x hx; unfold rowOk at h; rw [Bool.and_eq_true] at h; have := XPut.isB_size h.1; omega)
       have HF := Aside0.mk hfr
       have HE := Aside0.mk hend
       have HLN := Aside0.mk (And.intro hlen (And.intro (show R.q.length ≤ 30 by have := HL.out.1; omega) (takeAll_len t R.fs 40 HL.out.2 (fun f hf => by rcases hf6 f hf with h | h <;> rw [h]; omega; exact Nat.zero_le _))))
       clear hR hRP hfl hql hf6 hend hfr hlen hvl hv32 hvr
       have c_0 : w8.cell? ⟨p3, 0, none⟩ = some (.int .i64 c0) := S.cell 2 0 rfl rfl
       have c_1 : w8.cell? ⟨p3, 1, none⟩ = some (.int .i64 c1) := S.cell 2 1 rfl rfl
       have c_2 : w8.cell? ⟨p3, 2, none⟩ = some (.int .i64 c2) := S.cell 2 2 rfl rfl
       have c_3 : w8.cell? ⟨p3, 3, none⟩ = some (.int .i64 c3) := S.cell 2 3 rfl rfl
       have l_0 : w8.cell? ⟨p4, 0, none⟩ = some (.int .i64 s) := S.cell 1 0 rfl rfl
       have l_1 : w8.cell? ⟨p4, 1, none⟩ = some (.slice A q.length cc) := S.cell 1 1 rfl rfl
       have l_2 : w8.cell? ⟨p4, 2, none⟩ = some (.bool false) := S.cell 1 2 rfl rfl
       have l_3 : w8.cell? ⟨p4, 3, none⟩ = some (.int .i64 tok) := S.cell 1 3 rfl rfl
       have l_4 : w8.cell? ⟨p4, 4, none⟩ = some (.int .i64 at_) := S.cell 1 4 rfl rfl
       have l_5 : w8.cell? ⟨p4, 5, none⟩ = some (.bool sn) := S.cell 1 5 rfl rfl
       have l_6 : w8.cell? ⟨p4, 6, none⟩ = some (.int .i64 dg) := S.cell 1 6 rfl rfl
       have v_0 : w8.cell? ⟨p5, 0, none⟩ = some (.slice B t.length mc) := S.cell 0 0 rfl rfl
       have v_1 : w8.cell? ⟨p5, 1, none⟩ = some (.int .i64 now) := S.cell 0 1 rfl rfl
       go_wp2_with fail
       refine (emit_kn HQ2.out HQ.out HT2.out HTS.out FR.out (S.ft 2 rfl) (S.ft 0 rfl)).mono ?_
       rintro e w9 ⟨A2, e2, B2, d2, rfl, hV, hF, hb⟩
       replace S := (S.call (f := (V kCh (.slice A2 R.q.length e2) R.q)) hb hV).add (f := (V kFr (.slice B2 R.fs.length d2) R.fs)) ((S.call hb hF).ft 0 rfl)
       clear c_0 c_1 c_2 c_3 l_0 l_1 l_2 l_3 l_4 l_5 l_6 v_0 v_1 hb hV hF FR
       go_upto_region 7 with (fail)
       generalize hg : World.alloc _ _ = w10
       replace S := S.new hg
       clear hg
       generalize w9.heap.size = p8 at S ⊢
       replace S : Kn ok w0 [(p8, .cells #[.int .i64 R.s, .slice A2 R.q.length e2, .bool false, .int .i64 R.tok, .int .i64 R.at_, .bool R.sn, .int .i64 R.dg] TLk (0, 0)), (p5, .cells #[.slice B t.length mc, .int .i64 now] 48 (0, 0)), (p4, .cells #[.int .i64 s, .slice A q.length cc, .bool false, .int .i64 tok, .int .i64 at_, .bool sn, .int .i64 dg] TLk (0, 0)), (p3, .cells #[.int .i64 c0, .int .i64 c1, .int .i64 c2, .int .i64 c3] TCf (0, 0))] nil tt [V kFr (.slice B2 R.fs.length d2) R.fs, V kCh (.slice A2 R.q.length e2) R.q, V kSe (.slice A1 vw.length e1) vw, V kSe (.slice B t.length mc) t, V kCh (.slice A q.length cc) q] w10 := S
       have HH := Aside0.mk (Ft.all (S.ft 3 rfl))
       have v_0 : w10.cell? ⟨p5, 0, none⟩ = some (.slice B t.length mc) := S.cell 1 0 rfl rfl
       go_wp2
       clear v_0
       have HA := Aside0.mk S
       clear S
       go_loopw [10, 11] (fun x y wr => ∃ (i : Nat) (A3 : Option Addr) (c3' : Nat), x = .slice A3 (takeAll t R.fs i).length c3' ∧ y = .int .i64 i ∧ i ≤ R.fs.length ∧ Aside0 ((V kSe (.slice A3 (takeAll t R.fs i).length c3') (takeAll t R.fs i)).P wr (fun _ => True)) ∧ Aside0 (Kn ok w0 [(p8, .cells #[.int .i64 R.s, .slice A2 R.q.length e2, .bool false, .int .i64 R.tok, .int .i64 R.at_, .bool R.sn, .int .i64 R.dg] TLk (0, 0)), (p5, .cells #[.slice B t.length mc, .int .i64 now] 48 (0, 0)), (p4, .cells #[.int .i64 s, .slice A q.length cc, .bool false, .int .i64 tok, .int .i64 at_, .bool sn, .int .i64 dg] TLk (0, 0)), (p3, .cells #[.int .i64 c0, .int .i64 c1, .int .i64 c2, .int .i64 c3] TCf (0, 0))] nil tt [V kFr (.slice B2 R.fs.length d2) R.fs, V kCh (.slice A2 R.q.length e2) R.q, V kSe (.slice A1 vw.length e1) vw, V kSe (.slice B t.length mc) t, V kCh (.slice A q.length cc) q] wr)) (fun _ y _ => R.fs.length - (intOf y).toNat)
       case atStart => exact ⟨0, B, mc, rfl, rfl, Nat.zero_le _, HH, HA⟩
       case round =>
        obtain ⟨i, A3, c3', rfl, rfl, hi, hH, hA⟩ := hrel
        clear HA HH
        have S := hA.out
        clear hA
        have h0i : (0 : Int) ≤ (i : Int) := by omega
        by_cases hlt : i < R.fs.length
        ·have hlt' : (i : Int) < (R.fs.length : Int) := by omega
         have hft := (S.ft 0 rfl)
         obtain ⟨ad, A9, c9, he, y0, y1, y2, y3, y4, y5, y6, y7, y8, y9, hcy, hky⟩ := at_T60 (Kd.V_reads' (e := 0) (base := 0) hft).2.2 (i : Int) (by omega) (by omega)
         subst he
         rw [Int.toNat_natCast] at y0 y1 y2 y3 y4 y5 y6 y7 y8 y9
         rw [rdF_at R.fs i hlt] at hcy hky y0 y1 y2 y3 y4 y5 y6 y7 y8 y9
         obtain ⟨hdg, hkd⟩ := HF.out i hlt
         have hnx := takeAll_succ t R.fs i hlt
         have hln := HLN.out.2.2 i (by omega)
         generalize R.fs[i] = f at hdg hkd hnx hcy hky y0 y1 y2 y3 y4 y5 y6 y7 y8 y9
         have HNX := Aside0.mk hnx
         have hw1 : IntKind.i64.wrap ((i : Int) + 1) = (i : Int) + 1 := IntWalk.i64_in _ (by have := HLN.out.1; omega)
         generalize hhas : takeAll t R.fs i = has at hH hdg hnx hln ⊢
         clear hft hnx
         rcases hkd with ⟨k0, k6⟩ | ⟨k0, k6⟩ | ⟨k0, k6, k5⟩
         ·have HTK := Aside0.mk (show takeAll t R.fs (i + 1) = f.f6 from HNX.out.trans (by unfold takeF; rw [if_pos k0]))
          have HS9 := Aside0.mk (show (V kSe (.slice A9 f.f6.length c9) f.f6).P wr (fun _ => True) from Im.of_C kSe_heap hky hcy)
          rw [k0] at y0
          clear HNX k0 k6 hcy hky hdg hln hhas hH y1 y2 y3 y4 y5 y6 y7 y8
          go_wp2
          clear y0 y9
          go_roundw
          case rel => exact ⟨i + 1, A9, c9, by rw [HTK.out], by first | rfl | (congr 1), by omega, ⟨by rw [HTK.out]; exact HS9.out⟩, ⟨S⟩⟩
          case measure => simp [intOf]; omega
         ·have HTK := Aside0.mk (show takeAll t R.fs (i + 1) = setC has (chgF f) from HNX.out.trans (by unfold takeF; rw [if_neg (by rw [k0]; decide), if_pos k0, hhas]))
          have FSt := Aside0.mk (show rollcallref05_Set.f 1000 has f.f3 f.f2 f.f4.f0 f.f4.f1 f.f4.f2 f.f4.f3 = some (setC has (chgF f)) from refSet_b 1000 has (chgF f) (by have := HLN.out.1; omega) (by have := HLN.out.1; omega))
          rw [k0] at y0
          clear HNX k0 k6 hcy hky hdg hln hhas
          have SS : ∀ w' : World, Below wr.heap.size wr w' → w'.cell? ⟨(ad.add (i * 10)).block, (ad.add (i * 10)).off + 2, none⟩ = some (.bool f.f2) ∧ w'.cell? ⟨(ad.add (i * 10)).block, (ad.add (i * 10)).off + 3, none⟩ = some (.string f.f3) ∧ w'.cell? ⟨(ad.add (i * 10)).block, (ad.add (i * 10)).off + 4, none⟩ = some (.int .i64 f.f4.f0) ∧ w'.cell? ⟨(ad.add (i * 10)).block, (ad.add (i * 10)).off + 5, none⟩ = some (.int .i64 f.f4.f1) ∧ w'.cell? ⟨(ad.add (i * 10)).block, (ad.add (i * 10)).off + 6, none⟩ = some (.int .i64 f.f4.f2) ∧ w'.cell? ⟨(ad.add (i * 10)).block, (ad.add (i * 10)).off + 7, none⟩ = some (.string f.f4.f3) := fun w' hb => ⟨pw_cell_below hb y2, pw_cell_below hb y3, pw_cell_below hb y4, pw_cell_below hb y5, pw_cell_below hb y6, pw_cell_below hb y7⟩
          have HS := Aside0.mk S
          clear S
          go_wp2_with fail
          go_region_held3 (fun w' => w'.cell? ⟨(ad.add (i * 10)).block, (ad.add (i * 10)).off + 2, none⟩ = some (.bool f.f2) ∧ w'.cell? ⟨(ad.add (i * 10)).block, (ad.add (i * 10)).off + 3, none⟩ = some (.string f.f3) ∧ w'.cell? ⟨(ad.add (i * 10)).block, (ad.add (i * 10)).off + 4, none⟩ = some (.int .i64 f.f4.f0) ∧ w'.cell? ⟨(ad.add (i * 10)).block, (ad.add (i * 10)).off + 5, none⟩ = some (.int .i64 f.f4.f1) ∧ w'.cell? ⟨(ad.add (i * 10)).block, (ad.add (i * 10)).off + 6, none⟩ = some (.int .i64 f.f4.f2) ∧ w'.cell? ⟨(ad.add (i * 10)).block, (ad.add (i * 10)).off + 7, none⟩ = some (.string f.f4.f3)) (exact SS _ (by with_reducible repeat (first | assumption | apply below_alloc | apply below_drew1 | exact Below.refl _ _))) (first | (go_at_call 32; (with_reducible refine (rollcallref05_Set.kn 1000 FSt.out (Ft.below hH.out (by with_reducible repeat (first | assumption | apply below_alloc | apply below_drew1 | exact Below.refl _ _)))).mono ?_); rintro e zw1 ⟨A6, e6, rfl, hst, hb⟩; have hb1 := below_step (show Below wr.heap.size wr _ from (by with_reducible repeat (first | assumption | apply below_alloc | apply below_drew1 | exact Below.refl _ _))) hb; clear hb) | fail)
          have S := HS.out.below hb1
          have HST := Aside0.mk (Ft.all hst)
          clear HS SS hb1 hst y0 y1 y2 y3 y4 y5 y6 y7 y8 y9
          go_wp2
          go_roundw
          case rel => exact ⟨i + 1, A6, e6, by rw [HTK.out], by first | rfl | (congr 1), by omega, ⟨by rw [HTK.out]; exact HST.out⟩, ⟨S⟩⟩
          case measure => simp [intOf]; omega
         ·have HTK := Aside0.mk (show takeAll t R.fs (i + 1) = has from HNX.out.trans (by unfold takeF; rw [if_neg (by rw [k0]; decide), if_neg (by rw [k0]; decide), hhas]))
          have hr := Kd.V_reads' (e := 0) (base := 0) hH.out
          have d1 := fun u : Kin wr => rollcallref05_Sum.calls 6000 A3 c3' has (XSum.sumB vw) u.at' (Kd.C_below hr.2.2 u.bel) hr.2.1 (by rw [hdg k0]; exact refSum_b 6000 vw hmv.out (by omega))
          rw [k0] at y0
          rw [k5] at y8
          clear HNX k0 k6 k5 hcy hky hdg hln hhas hr y1 y2 y3 y4 y5 y6 y7 y9
          have hH2 := hH.out
          clear hH
          have Yy5 : ∀ u : Kin wr, u.at'.cell? _ = _ := Kin.cell y8
          go_wp2_with fail
          refine region_kin (by kernel_rfl) (by kernel_rfl) ?_
          repeat (go_big_quiet_step (first | (go_at_call 33; exact Kin.call (d1 _)) | fail))
          refine wpQuiet_nil ?_
          rintro zw2 ⟨⟨_, hb⟩, rfl⟩
          replace S := S.below hb
          have HH2 := Aside0.mk (Ft.below hH2 hb)
          clear hb hH2 d1 Yy5 y0 y8
          go_wp2
          go_roundw
          case rel => exact ⟨i + 1, A3, c3', by rw [HTK.out], by first | rfl | (congr 1), by omega, ⟨by rw [HTK.out]; exact HH2.out⟩, ⟨S⟩⟩
          case measure => simp [intOf]; omega
        ·obtain rfl : i = R.fs.length := by omega
         have hln := HLN.out.2.2 R.fs.length (Nat.le_refl _)
         have hE := HE.out
         generalize takeAll t R.fs R.fs.length = has at hH hln hE ⊢
         have hnl : ¬ (R.fs.length : Int) < (R.fs.length : Int) := by omega
         have FO2 := Aside0.mk ((refOver_b 7000 has R.q false (by have := HLN.out.2.1; omega) (by have := HLN.out.1; omega) (by omega)).trans (congrArg some hE))
         have FSV := Aside0.mk (sameS_f 100 vw (by have := HT2.out; omega) (by have := HT2.out; omega))
         have HEE := Aside0.mk hE
         have hH2 := hH.out
         clear hlt hi hE hln hH
         have m_1 : wr.cell? ⟨p8, 1, none⟩ = some (.slice A2 R.q.length e2) := S.cell 0 1 rfl rfl
         have m_2 : wr.cell? ⟨p8, 2, none⟩ = some (.bool false) := S.cell 0 2 rfl rfl
         go_wp2_with fail
         refine (rollcallref17_Over.kn 7000 FO2.out hH2 (S.ft 1 rfl)).mono ?_
         rintro e w11 ⟨A4, e4, rfl, hV, hb⟩
         replace S := S.below hb
         replace hH2 := Ft.below hH2 hb
         have hv2 := Ft.all hV
         clear hV
         clear m_1 m_2 hb FO2
         go_wp2_with fail
         refine (rollcallref05_Same.kn 100 FSV.out hv2 (S.ft 2 rfl)).mono ?_
         rintro e w12 ⟨rfl, hb⟩
         replace S := S.below hb
         replace hH2 := Ft.below hH2 hb
         replace hv2 := Ft.below hv2 hb
         clear hb
         have m_0 : w12.cell? ⟨p8, 0, none⟩ = some (.int .i64 R.s) := S.cell 0 0 rfl rfl
         have m_1 : w12.cell? ⟨p8, 1, none⟩ = some (.slice A2 R.q.length e2) := S.cell 0 1 rfl rfl
         have m_2 : w12.cell? ⟨p8, 2, none⟩ = some (.bool false) := S.cell 0 2 rfl rfl
         have m_3 : w12.cell? ⟨p8, 3, none⟩ = some (.int .i64 R.tok) := S.cell 0 3 rfl rfl
         have m_4 : w12.cell? ⟨p8, 4, none⟩ = some (.int .i64 R.at_) := S.cell 0 4 rfl rfl
         have m_5 : w12.cell? ⟨p8, 5, none⟩ = some (.bool R.sn) := S.cell 0 5 rfl rfl
         have m_6 : w12.cell? ⟨p8, 6, none⟩ = some (.int .i64 R.dg) := S.cell 0 6 rfl rfl
         obtain ⟨b6, hb6⟩ : ∃ b, b = (!R.sn && (decide (R.q.length = 0) && !false)) := ⟨_, rfl⟩
         have FQ := Aside0.mk ((quiet_b R.s R.q false R.tok R.at_ R.sn R.dg).trans (congrArg some hb6.symm))
         have H6 := Aside0.mk hb6
         clear hb6
         go_wp2_with fail
         refine (link_Quiet.kn FQ.out (S.ft 1 rfl)).mono ?_
         rintro e w13 ⟨rfl, hb⟩
         replace S := S.below hb
         replace hH2 := Ft.below hH2 hb
         replace hv2 := Ft.below hv2 hb
         clear m_0 m_1 m_2 m_3 m_4 m_5 m_6 hb FQ
         cases b6 with
         | false =>
          go_wp2_with fail
          refine (live_walk w13).mono ?_
          rintro e wl ⟨rfl, bl⟩
          go_wp2
          go_ret
          exact ⟨rfl, below_step S.bel bl⟩
         | true =>
          have hq0 : R.q = [] := by have h := H6.out.symm; simp only [Bool.and_eq_true, decide_eq_true_eq] at h; exact List.length_eq_zero_iff.1 h.2.1
          have hhv : has = vw := by have h := HEE.out; rw [hq0] at h; exact h
          have FSH := Aside0.mk (show rollcallref05_Same.f 100 has vw = some true by rw [hhv]; exact FSV.out)
          clear hq0 hhv
          go_wp2_with fail
          refine (rollcallref05_Same.kn 100 FSH.out hH2 (S.ft 2 rfl)).mono ?_
          rintro e w14 ⟨rfl, hb⟩
          replace S := S.below hb
          replace hH2 := Ft.below hH2 hb
          replace hv2 := Ft.below hv2 hb
          clear hb
          go_wp2_with fail
          refine (live_walk w14).mono ?_
          rintro e wl ⟨rfl, bl⟩
          go_wp2
          go_ret
          exact ⟨rfl, below_step S.bel bl⟩
theorem linkTold_walk (c0 c1 c2 c3 : Int) (s : Int) (A : Option Addr) (cc : Nat) (q : List Ch) (lat : Bool) (tok at_ : Int) (sn : Bool) (dg : Int) (B : Option Addr) (mc : Nat) (t : List Se) (now : Int) (w : World) (hr1 : Kd.C kCh w A q.length q) (hc1 : q.length ≤ cc) (hr2 : Kd.C kSe w B t.length t) (hc2 : t.length ≤ mc) (g_c0 : (Lit.int .i64 c0).wf = true) (g_c1 : (Lit.int .i64 c1).wf = true) (g_c2 : (Lit.int .i64 c2).wf = true) (g_c3 : (Lit.int .i64 c3).wf = true) (g_s : (Lit.int .i64 s).wf = true) (m1 : q.length ≤ maxLen) (o1 : ∀ x ∈ q, Ok34 x) (g_tok : (Lit.int .i64 tok).wf = true) (g_at_ : (Lit.int .i64 at_).wf = true) (g_dg : (Lit.int .i64 dg).wf = true) (m2 : t.length ≤ maxLen) (o2 : ∀ x ∈ t, Ok72 x) (g_now : (Lit.int .i64 now).wf = true) :
  Calls Try.prog 6 #[.agg #[.int .i64 c0, .int .i64 c1, .int .i64 c2, .int .i64 c3], .agg #[.int .i64 s, .slice A q.length cc, .bool lat, .int .i64 tok, .int .i64 at_, .bool sn, .int .i64 dg], .agg #[.slice B t.length mc, .int .i64 now]] w fun e w' => e = .returned (.bool true) ∧ Below w.heap.size w w' :=
 linkTold_go (fun _ => True) c0 c1 c2 c3 s A cc q lat tok at_ sn dg B mc t now w w (Kn.enter _ w (by simp only [List.mem_cons, List.not_mem_nil, or_false]; rintro f (rfl | rfl); exact Im.of_C kSe_heap hr2 hc2; exact Im.of_C kCh_heap hr1 hc1)) (fun x hx => by have := (o1 x hx).1; unfold maxLen at this; omega) (fun x hx => by have := (o2 x hx).1; unfold maxLen at this; omega)
end Go.Proofs.Ytmigglldahkngaa.XHand
end
section
-- Written by a program of this session (wip/tools/xprint.py), which drives the kit's print.
namespace Go.Proofs.Ytmigglldahkngaa.linkTold
open Go.ChangeShapes Go.WideShapes Go.ChangeAt Go.RowKit Go.Proofs.YtmigglldahkngaaW.PrintWords Go.Proofs.YtmigglldahkngaaW.PrintLast Go.Proofs.YtmigglldahkngaaW.PrintMore Go.Proofs.Ytmigglldahkngaa.XOpen Go.Proofs.Ytmigglldahkngaa.PA
open Go.ChangeMaps (open_string shut_string)
set_option linter.unusedVariables false
set_option linter.unusedSimpArgs false
theorem own : ownKnob Try.prog.godebug = none := by kernel_rfl
theorem laidOut : laidOutB Try.prog = true := by kernel_rfl
theorem opens23 : Opens Try.prog 23 k23 Ok23 := Opens.iso (Opens.struct [3, 3, 3, 3] [1, 1, 1, 1] Try.underlying23 (by kernel_rfl) (by kernel_rfl) (by kernel_rfl) (by kernel_rfl) (OpensL.cons (Opens.int Try.underlying3) (OpensL.cons (Opens.int Try.underlying3) (OpensL.cons (Opens.int Try.underlying3) (OpensL.one (Opens.int Try.underlying3)))))) (fun x : S23 => (x.f0, x.f1, x.f2, x.f3)) (fun a => (⟨a.1, a.2.1, a.2.2.1, a.2.2.2⟩ : S23)) (fun _ => rfl)
theorem opens32 : Opens Try.prog 32 k32 Ok32 := Opens.iso (Opens.struct [3, 3, 3, 9] [1, 1, 1, 1] Try.underlying32 (by kernel_rfl) (by kernel_rfl) (by kernel_rfl) (by kernel_rfl) (OpensL.cons (Opens.int Try.underlying3) (OpensL.cons (Opens.int Try.underlying3) (OpensL.cons (Opens.int Try.underlying3) (OpensL.one (Opens.string Try.underlying9)))))) (fun x : S32 => (x.f0, x.f1, x.f2, x.f3)) (fun a => (⟨a.1, a.2.1, a.2.2.1, a.2.2.2⟩ : S32)) (fun _ => rfl)
theorem opens34 : Opens Try.prog 34 k34 Ok34 := Opens.iso (Opens.struct [9, 4, 32] [1, 1, 4] Try.underlying34 (by kernel_rfl) (by kernel_rfl) (by kernel_rfl) (by kernel_rfl) (OpensL.cons (Opens.string Try.underlying9) (OpensL.cons (Opens.bool Try.underlying4) (OpensL.one opens32)))) (fun x : S34 => (x.f0, x.f1, x.f2)) (fun a => (⟨a.1, a.2.1, a.2.2⟩ : S34)) (fun _ => rfl)
theorem opens26 : Opens Try.prog 26 k26 Ok26 := Opens.iso (Opens.struct [24, 4] [1, 1] Try.underlying26 (by kernel_rfl) (by kernel_rfl) (by kernel_rfl) (by kernel_rfl) (OpensL.cons (Opens.slice Try.underlying24 (by kernel_rfl) z34 opens34) (OpensL.one (Opens.bool Try.underlying4)))) (fun x : S26 => (x.f0, x.f1)) (fun a => (⟨a.1, a.2⟩ : S26)) (fun _ => rfl)
theorem opens28 : Opens Try.prog 28 k28 Ok28 := Opens.iso (Opens.struct [3, 3] [1, 1] Try.underlying28 (by kernel_rfl) (by kernel_rfl) (by kernel_rfl) (by kernel_rfl) (OpensL.cons (Opens.int Try.underlying3) (OpensL.one (Opens.int Try.underlying3)))) (fun x : S28 => (x.f0, x.f1)) (fun a => (⟨a.1, a.2⟩ : S28)) (fun _ => rfl)
theorem opens30 : Opens Try.prog 30 k30 Ok30 := Opens.iso (Opens.struct [3, 26, 28, 4, 3] [1, 2, 2, 1, 1] Try.underlying30 (by kernel_rfl) (by kernel_rfl) (by kernel_rfl) (by kernel_rfl) (OpensL.cons (Opens.int Try.underlying3) (OpensL.cons opens26 (OpensL.cons opens28 (OpensL.cons (Opens.bool Try.underlying4) (OpensL.one (Opens.int Try.underlying3))))))) (fun x : S30 => (x.f0, x.f1, x.f2, x.f3, x.f4)) (fun a => (⟨a.1, a.2.1, a.2.2.1, a.2.2.2.1, a.2.2.2.2⟩ : S30)) (fun _ => rfl)
theorem opens72 : Opens Try.prog 72 k72 Ok72 := Opens.iso (Opens.struct [9, 32] [1, 4] Try.underlying72 (by kernel_rfl) (by kernel_rfl) (by kernel_rfl) (by kernel_rfl) (OpensL.cons (Opens.string Try.underlying9) (OpensL.one opens32))) (fun x : S72 => (x.f0, x.f1)) (fun a => (⟨a.1, a.2⟩ : S72)) (fun _ => rfl)
theorem opens48 : Opens Try.prog 48 k48 Ok48 := Opens.iso (Opens.struct [46, 3] [1, 1] Try.underlying48 (by kernel_rfl) (by kernel_rfl) (by kernel_rfl) (by kernel_rfl) (OpensL.cons (Opens.slice Try.underlying46 (by kernel_rfl) z72 opens72) (OpensL.one (Opens.int Try.underlying3)))) (fun x : S48 => (x.f0, x.f1)) (fun a => (⟨a.1, a.2⟩ : S48)) (fun _ => rfl)
set_option maxRecDepth 100000 in
theorem lifted (os : Os) (started : os.Started) (H : Type) (enc : TypeId × Value → H) :
  ReturnsInHanded {} Try.checked os 6 .any (Rows.linkToldSpec.pre6 enc Try.prog Try.f6 Rows.linkToldRow.domain false) (Rows.linkToldSpec.post enc Try.prog Try.f6 false true false false) := by
 refine returnsInHanded_of_change_sized (C := Try.checked) own started (by kernel_rfl) Try.func6
  (ChangeSpec.witness6 (enc := enc) (C := Try.checked) false ⟨#[], #[.agg #[.int .i64 0, .int .i64 0, .int .i64 0, .int .i64 0], .agg #[.int .i64 0, .slice none 0 0, .bool false, .int .i64 0, .int .i64 0, .bool false, .int .i64 0], .agg #[.slice none 0 0, .int .i64 0]], []⟩ 8 (by kernel_rfl) (by kernel_rfl) (by kernel_rfl) (by kernel_rfl)) ?_
 intro W base args ds gs before hval0 hW hcnd hsz0 _
 have hsz : (DataW.weightsEach Try.prog (Try.f6.params.toList ++ Rows.linkToldSpec.plain.varTypes Try.prog) (ds ++ gs)).all (· ≤ reachBytes) = true := hsz0
 have hval : ∀ (j : Nat) t v, Try.f6.params[j]? = some t → args[j]? = some v → Value.okWide Try.prog W .any base t v := hval0
 have hW' := hW
 obtain ⟨p, q, hA0, hV, rfl, hfz, hnd⟩ := hW
 have hA : DataW.TrodAll enc Try.prog W 0 (fun _ => true) true Try.f6.params.toList args.toList ds p := hA0
 rw [Try.params6] at hA hval hsz
 obtain ⟨v0, vs0, d0, ds0, p0, q0, hargs, rfl, rfl, h0, r0⟩ := trodAll_cons hA
 obtain ⟨v1, vs1, d1, ds1, p1, q1, rfl, rfl, rfl, h1, r1⟩ := trodAll_cons r0
 obtain ⟨v2, vs2, d2, ds2, p2, q2, rfl, rfl, rfl, h2, r2⟩ := trodAll_cons r1
 obtain ⟨rfl, rfl, rfl⟩ := trodAll_nil r2
 obtain rfl : args = #[v0, v1, v2] := by cases args; simp_all
 obtain ⟨rfl, rfl⟩ := trodVars_none hV
 have k0 := h0
 have lt0 : ∀ x ∈ p0, x.block < W.heap.size := by obtain ⟨m, hm⟩ := k0; exact DataW.trod_lt m _ _ _ hm
 obtain ⟨cs0, rfl, hs0⟩ := okWide_struct Try.underlying23 (hval 0 23 v0 rfl rfl)
 obtain ⟨x0, g0, o0⟩ : ∃ x, k23.K W x cs0.toList ∧ Ok23 x := by
  obtain ⟨fuel, hf⟩ := h0
  exact opens23 enc W 0 _ true fuel _ _ hf
 obtain e0 := k23_open g0
 obtain rfl : cs0 = #[.int .i64 x0.f0, .int .i64 x0.f1, .int .i64 x0.f2, .int .i64 x0.f3] := Array.toList_inj.1 e0
 have k1 := h1
 have lt1 : ∀ x ∈ p1, x.block < W.heap.size := by obtain ⟨m, hm⟩ := k1; exact DataW.trod_lt m _ _ _ hm
 obtain ⟨cs1, rfl, hs1⟩ := okWide_struct Try.underlying30 (hval 1 30 v1 rfl rfl)
 obtain ⟨x1, g1, o1⟩ : ∃ x, k30.K W x cs1.toList ∧ Ok30 x := by
  obtain ⟨fuel, hf⟩ := h1
  exact opens30 enc W 0 _ true fuel _ _ hf
 obtain ⟨A1_1, c1_1, e1, hc1_1, hr1_1⟩ := k30_open g1
 obtain rfl : cs1 = #[.int .i64 x1.f0, .slice A1_1 (x1.f1.f0).length c1_1, .bool x1.f1.f1, .int .i64 x1.f2.f0, .int .i64 x1.f2.f1, .bool x1.f3, .int .i64 x1.f4] := Array.toList_inj.1 e1
 have k2 := h2
 have lt2 : ∀ x ∈ p2, x.block < W.heap.size := by obtain ⟨m, hm⟩ := k2; exact DataW.trod_lt m _ _ _ hm
 obtain ⟨cs2, rfl, hs2⟩ := okWide_struct Try.underlying48 (hval 2 48 v2 rfl rfl)
 obtain ⟨x2, g2, o2⟩ : ∃ x, k48.K W x cs2.toList ∧ Ok48 x := by
  obtain ⟨fuel, hf⟩ := h2
  exact opens48 enc W 0 _ true fuel _ _ hf
 obtain ⟨A2_0, c2_0, e2, hc2_0, hr2_0⟩ := k48_open g2
 obtain rfl : cs2 = #[.slice A2_0 (x2.f0).length c2_0, .int .i64 x2.f1] := Array.toList_inj.1 e2
 clear hA0 hval0 hsz0 hsz
 refine (Go.Proofs.Ytmigglldahkngaa.XHand.linkTold_walk (x0.f0) (x0.f1) (x0.f2) (x0.f3) (x1.f0) _ _ (x1.f1.f0) (x1.f1.f1) (x1.f2.f0) (x1.f2.f1) (x1.f3) (x1.f4) _ _ (x2.f0) (x2.f1) W hr1_1 hc1_1 hr2_0 hc2_0 o0.1 o0.2.1 o0.2.2.1 o0.2.2.2 o1.1 o1.2.1.1.1 o1.2.1.1.2 o1.2.2.1.1 o1.2.2.1.2 o1.2.2.2.2 o2.1.1 o2.1.2 o2.2).mono fun e W' ⟨he, bel⟩ => ?_
 subst he
 exact ⟨_, rfl, _, _, _, [], _, [], hW', trodAll_mk1 (shut_bool Try.underlying4 _), (trodAll_cons_mk (Below.trod laidOut (by kernel_rfl) (of_decide_eq_true (by kernel_rfl)) k0 bel lt0) (trodAll_cons_mk (Below.trod laidOut (by kernel_rfl) (of_decide_eq_true (by kernel_rfl)) k1 bel lt1) (trodAll_cons_mk (Below.trod laidOut (by kernel_rfl) (of_decide_eq_true (by kernel_rfl)) k2 bel lt2) trodAll_mk0))), rfl, bel.frame _, fun h => by cases h⟩
theorem over : Rows.linkToldRow.holds Try.pinned (OpenSpec.ofChange Rows.linkToldSpec) :=
 OpenClaim.holds_of_wide 6 Try.f6 rfl rfl rfl rfl rfl rfl rfl ⟨rfl, rfl, rfl, rfl, rfl⟩ rfl rfl rfl rfl rfl (by kernel_rfl) Try.func6 (by kernel_rfl)
  (of_decide_eq_true (by kernel_rfl)) (by unfold Func.isWrapper; first | (rw [if_pos (by decide +kernel)]; kernel_rfl) | (rw [if_neg (by decide +kernel)]; exact ⟨rfl, rfl⟩))
  (fun os started H enc _ => lifted os started H enc)
theorem proved : Rows.LinkToldSaid := over
#print axioms proved
end Go.Proofs.Ytmigglldahkngaa.linkTold
namespace Go.Proofs.Ytmigglldahkngaa
/-- The row, under a short name, for the claim. -/
theorem linkTold_holds : Rows.LinkToldSaid := linkTold.proved
end Go.Proofs.Ytmigglldahkngaa
end
