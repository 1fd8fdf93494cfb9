/- law of FrameTables: the row, by its walk. -/
import Derived.Test.YtjccgdnnnlgeeaaBitesizesbles4
section
/- law06's FrameTables, walked: a snapshot's table is told as it is put. -/
namespace Go.Proofs.Ytjccgdnnnlgeeaa.XHand
open Go.RowKit Go.Proofs.YtjccgdnnnlgeeaaW.PrintWords Go.Proofs.YtjccgdnnnlgeeaaW.PrintLast Go.Proofs.YtjccgdnnnlgeeaaW.PrintMore Go.Proofs.Ytjccgdnnnlgeeaa.PA Go.Proofs.Ytjccgdnnnlgeeaa.XMem Go.Proofs.Ytjccgdnnnlgeeaa.XSt Go.Proofs.Ytjccgdnnnlgeeaa.XKn Go.Proofs.Ytjccgdnnnlgeeaa.XQuiet Go.Proofs.Ytjccgdnnnlgeeaa.XFr
open Go.Proofs.Ytjccgdnnnlgeeaa.XSum (Se kSe)
open Go.Proofs.Ytjccgdnnnlgeeaa.XV17 (mayT mayT_iff)
open Go.Proofs.Ytjccgdnnnlgeeaa.XV01 (P)
open Go.Proofs.Ytjccgdnnnlgeeaa.XCrc (sealB openB)
set_option linter.unusedVariables false
set_option linter.unusedSimpArgs false
set_option maxRecDepth 100000
theorem plain_size' {f : Fr} (h : mayF f = true) : (plainF f).size ≤ 1864 := by
 obtain ⟨_, _, _, h0, h1⟩ := may_body h
 exact plain_le h0 h1
theorem mayT3 (t : List Se) (seq : Int) : mayF (⟨3, seq, false, ⟨#[]⟩, zv, 0, t⟩ : Fr) = (decide (0 ≤ seq ∧ seq ≤ 1099511627776) && mayT t) := by
 unfold mayF mayK
 simp only
 rw [if_neg (by decide), if_neg (by decide), if_pos trivial, (zV_iff zv).2 rfl]
 simp
set_option maxHeartbeats 8000000 in
theorem frameTables_go (ok : Nat → Prop) (A : Option Addr) (c : Nat) (t : List Se) (seq : Int) (ht : ∀ x ∈ t, x.f0.size ≤ 9223372036854775807) (w0 w : World) (S : Kn ok w0 [] nil tt [V kSe (.slice A t.length c) t] w) :
  Calls Try.prog 7 #[.slice A t.length c, .int .i64 seq] w fun e w' => e = .returned (.bool true) ∧ Below w0.heap.size w0 w' := by
 have HT := Aside0.mk ht
 clear ht
 obtain ⟨b0, hb0, hl0⟩ := XV17.fewS_f 100 t (by omega)
 have F0 := Aside0.mk hb0
 have H0 := Aside0.mk hl0
 clear hb0 hl0
 go_enter Try.func7, Try.ntmps7
 go_wp2_with fail
 refine (rollcallref05_Few.kn 100 F0.out (S.ft 0 rfl)).mono ?_
 rintro e w1 ⟨rfl, hb⟩
 replace S := S.below hb
 clear hb
 cases b0 with
 | false =>
  go_wp2_with fail
  refine (live_walk w1).mono ?_
  rintro e wl ⟨rfl, bl⟩
  go_wp2
  go_ret
  exact ⟨rfl, below_step S.bel bl⟩
 | true =>
  have LT := Aside0.mk (H0.out rfl)
  clear F0 H0
  have HPE := Aside0.mk (fun (z : World) (v : (V kSe (.slice A t.length c) t).P z (fun _ => True)) => enc_kn (f := (⟨3, seq, false, ⟨#[]⟩, zv, 0, t⟩ : Fr)) (A := A) (c := c) LT.out HT.out (Nat.zero_le _) ⟨Int.le_refl 0, (by show (0 : Int) < 18446744073709551616; decide)⟩ v)
  have HPut := Aside0.mk (refPutT_b 300 t LT.out (by omega))
  obtain ⟨m, hm⟩ : ∃ m, m = mayF (⟨3, seq, false, ⟨#[]⟩, zv, 0, t⟩ : Fr) := ⟨_, rfl⟩
  have hmm := mayT3 t seq
  rw [← hm] at hmm
  have hge : decide (seq ≥ 0) = decide (0 ≤ seq) := rfl
  have hdd : decide (0 ≤ seq ∧ seq ≤ 1099511627776) = (decide (0 ≤ seq) && decide (seq ≤ 1099511627776)) := by rw [Bool.decide_and]
  rw [hdd] at hmm
  clear hdd
  by_cases hmt : m = true
  rotate_left
  ·have hmf : m = false := Bool.eq_false_iff.mpr hmt
   have e : encF (⟨3, seq, false, ⟨#[]⟩, zv, 0, t⟩ : Fr) = (⟨#[]⟩, 1) := by unfold encF; rw [← hm, if_neg hmt]
   rw [e] at HPE
   rw [hmf] at hmm
   clear e hmt hm hmf
   obtain ⟨u, hu⟩ : ∃ u, u = putT t := ⟨_, rfl⟩
   have hu2 : u.2 = mayT t := by rw [hu]; unfold putT; cases h : mayT t <;> rfl
   rw [← hu] at HPut
   clear hu
   obtain ⟨u1, u2⟩ := u
   dsimp only at hu2
   rw [← hu2] at hmm
   have HMM := Aside0.mk hmm
   clear hu2 hmm
   go_wp2_with fail
   refine (HPE.out _ (Ft.all (S.ft 0 rfl))).mono ?_
   rintro e w2 ⟨rfl, hb⟩
   replace S := S.below hb
   clear hb HPE
   go_wp2_with fail
   refine (rollcallref05_Put.kn 300 HPut.out (S.ft 0 rfl)).mono ?_
   rintro e w3 ⟨rfl, hb⟩
   replace S := S.below hb
   clear hb HPut
   cases u2 with
   | false =>
    go_wp2_with fail
    refine (live_walk w3).mono ?_
    rintro e wl ⟨rfl, bl⟩
    go_wp2
    go_ret
    exact ⟨rfl, below_step S.bel bl⟩
   | true =>
    cases h1 : decide (0 ≤ seq) with
    | false =>
     have h1' : decide (seq ≥ 0) = false := h1
     go_wp2_with fail
     refine (live_walk w3).mono ?_
     rintro e wl ⟨rfl, bl⟩
     go_wp2
     go_ret
     exact ⟨rfl, below_step S.bel bl⟩
    | true =>
     have h1' : decide (seq ≥ 0) = true := h1
     have h2 : decide (seq ≤ 1099511627776) = false := by have h := HMM.out; rw [Bool.and_true, h1, Bool.true_and] at h; exact h.symm
     go_wp2_with fail
     refine (live_walk w3).mono ?_
     rintro e wl ⟨rfl, bl⟩
     go_wp2
     go_ret
     exact ⟨rfl, below_step S.bel bl⟩
  rw [hmt] at hm hmm
  have hmay : mayF (⟨3, seq, false, ⟨#[]⟩, zv, 0, t⟩ : Fr) = true := hm.symm
  have e : encF (⟨3, seq, false, ⟨#[]⟩, zv, 0, t⟩ : Fr) = (sealB (plainF (⟨3, seq, false, ⟨#[]⟩, zv, 0, t⟩ : Fr)), 0) := by unfold encF; rw [if_pos hmay]
  rw [e] at HPE
  clear e
  have hmm' := hmm.symm
  rw [Bool.and_eq_true, Bool.and_eq_true] at hmm'
  obtain ⟨⟨h1, h2⟩, h3⟩ := hmm'
  have h1' : decide (seq ≥ 0) = true := h1
  clear hmm hge hm hmt
  have eu : putT t = (tB t, true) := by unfold putT; rw [if_pos h3]
  rw [eu] at HPut
  clear eu
  have hdec := dec_enc hmay ⟨Int.le_refl 0, (by show (0 : Int) < 18446744073709551616; decide)⟩
  have hpz := plain_size' hmay
  have ep : plainF (⟨3, seq, false, ⟨#[]⟩, zv, 0, t⟩ : Fr) = headF (⟨3, seq, false, ⟨#[]⟩, zv, 0, t⟩ : Fr) ++ tB t := by unfold plainF bodyF putT; simp only; rw [if_neg (by decide), if_neg (by decide), if_pos trivial, if_pos h3]
  have hh := headF_size (⟨3, seq, false, ⟨#[]⟩, zv, 0, t⟩ : Fr)
  have hPp := XV01.P_pos seq
  have hb3 := head_bt (⟨3, seq, false, ⟨#[]⟩, zv, 0, t⟩ : Fr) (tB t) (by show (1 : Int) ≤ 3; decide) (by show (3 : Int) ≤ 4; decide)
  simp only at hh hb3
  rw [← ep] at hb3
  have hps : (plainF (⟨3, seq, false, ⟨#[]⟩, zv, 0, t⟩ : Fr)).size = (headF (⟨3, seq, false, ⟨#[]⟩, zv, 0, t⟩ : Fr)).size + (tB t).size := by rw [ep, XBytes.app_size]
  have hex : (plainF (⟨3, seq, false, ⟨#[]⟩, zv, 0, t⟩ : Fr)).extract ((plainF (⟨3, seq, false, ⟨#[]⟩, zv, 0, t⟩ : Fr)).size - (tB t).size) (plainF (⟨3, seq, false, ⟨#[]⟩, zv, 0, t⟩ : Fr)).size = tB t := by
   have := XCat.ext_mid (headF (⟨3, seq, false, ⟨#[]⟩, zv, 0, t⟩ : Fr)) (tB t) ⟨#[]⟩
   rw [XCat.app_nil] at this
   rw [hps, ep, Nat.add_sub_cancel]
   exact this
  have HD := Aside0.mk (fun z => by have h := dec_calls (sealB (plainF (⟨3, seq, false, ⟨#[]⟩, zv, 0, t⟩ : Fr))) (by rw [sealB_size]; omega) z; rw [hdec] at h; exact h)
  have HO := Aside0.mk ((refOpen_b 3000 (sealB (plainF (⟨3, seq, false, ⟨#[]⟩, zv, 0, t⟩ : Fr))) (by rw [sealB_size]; omega) (by rw [sealB_size]; omega)).trans (congrArg some (open_seal _)))
  generalize plainF (⟨3, seq, false, ⟨#[]⟩, zv, 0, t⟩ : Fr) = pf at *
  generalize headF (⟨3, seq, false, ⟨#[]⟩, zv, 0, t⟩ : Fr) = hd at *
  generalize tB t = u at *
  generalize sealB pf = q at *
  clear hmay hdec ep h3
  have hx : ∀ h : 0 < pf.size, ((pf[0]'h).toNat : Int) = 3 := fun h => (bt_at pf 0 h).trans hb3
  have hp0 : (0 : Int) < (pf.size : Int) := by omega
  have hw1 : IntKind.i64.wrap ((u.size : Int) + 2) = u.size + 2 := by rw [IntKind.wrap_i64]; omega
  have hw2 : IntKind.i64.wrap ((pf.size : Int) - u.size) = ((pf.size - u.size : Nat) : Int) := by rw [IntKind.wrap_i64]; omega
  have hw3 : ((pf.size - u.size : Nat) : Int) ≤ (pf.size : Int) := by omega
  have hw4 : (0 : Int) ≤ ((pf.size - u.size : Nat) : Int) := by omega
  have hlt : decide ((pf.size : Int) < (u.size : Int) + 2) = false := decide_eq_false (by omega)
  have heq : (u.toList == u.toList) = true := by simp
  obtain ⟨ns, hns⟩ : ∃ n, n = pf.size - u.size := ⟨_, rfl⟩
  rw [← hns] at hex hw2 hw3 hw4
  have hnt : ((ns : Nat) : Int).toNat = ns := Int.toNat_natCast _
  clear hns hps hh hPp hb3
  obtain ⟨r, hr, hri⟩ := same_b 1000 t t (by have := LT.out; omega) (by have := LT.out; omega)
  obtain rfl : r = true := hri.2 rfl
  have HR := Aside0.mk hr
  clear hr hri
  have hsq : (seq == seq) = true := by simp
  go_wp2_with fail
  refine (HPE.out _ (Ft.all (S.ft 0 rfl))).mono ?_
  rintro e w2 ⟨rfl, hb⟩
  replace S := S.below hb
  clear hb HPE
  go_wp2_with fail
  refine (rollcallref05_Put.kn 300 HPut.out (S.ft 0 rfl)).mono ?_
  rintro e w3 ⟨rfl, hb⟩
  replace S := S.below hb
  clear hb HPut
  go_wp2_with fail
  refine (rollcallref02_Open.kn 3000 HO.out).mono ?_
  rintro e w4 ⟨rfl, hb⟩
  replace S := S.below hb
  clear hb HO
  go_wp2_with fail
  refine (HD.out _).mono ?_
  rintro e w5 ⟨A2, c2, rfl, hV, hb⟩
  replace S := S.call (f := (V kSe (.slice A2 t.length c2) t)) hb (Ft.mono _ hV (fun k hk => Or.inr hk))
  clear hb hV HD
  go_upto_region 13 with (fail)
  generalize hg : World.alloc _ _ = w6
  replace S := S.new hg
  clear hg
  generalize w5.heap.size = p11 at S ⊢
  replace S : Kn ok w0 [(p11, .cells #[.int .i64 3, .int .i64 seq, .bool false, .string ⟨#[]⟩, .int .i64 0, .int .i64 0, .int .i64 0, .string ⟨#[]⟩, .int .u64 0, .slice A2 t.length c2] TFr (0, 0))] nil tt [V kSe (.slice A2 t.length c2) t, V kSe (.slice A t.length c) t] w6 := S
  have f_1 : w6.cell? ⟨p11, 1, none⟩ = some (.int .i64 seq) := S.cell 0 1 rfl rfl
  have f_9 : w6.cell? ⟨p11, 9, none⟩ = some (.slice A2 t.length c2) := S.cell 0 9 rfl rfl
  go_wp2_with fail
  refine (rollcallref05_Same.kn 1000 HR.out (S.ft 0 rfl) (S.ft 1 rfl)).mono ?_
  rintro e w7 ⟨rfl, hb⟩
  replace S := S.below hb
  clear f_1 f_9 hb HR
  have f_1 : w7.cell? ⟨p11, 1, none⟩ = some (.int .i64 seq) := S.cell 0 1 rfl rfl
  go_wp2_with fail
  refine (live_walk _).mono ?_
  rintro e w8 ⟨rfl, hb⟩
  replace S := S.below hb
  clear f_1 hb
  go_wp2
  go_ret
  exact ⟨rfl, S.bel⟩
theorem frameTables_walk (A : Option Addr) (c : Nat) (t : List Se) (seq : Int) (w : World) (hr : Kd.C kSe w A t.length t) (hc : t.length ≤ c) (_h1 : t.length ≤ maxLen) (hl : ∀ y ∈ t, Ok52 y) (_h2 : (Lit.int .i64 seq).wf = true) :
  Calls Try.prog 7 #[.slice A t.length c, .int .i64 seq] w fun e w' => e = .returned (.bool true) ∧ Below w.heap.size w w' :=
 frameTables_go (fun _ => True) A c t seq (fun x hx => by have := (hl x hx).1; unfold maxLen at this; omega) w w (Kn.enter _ w (by simp only [List.mem_cons, List.not_mem_nil, or_false]; rintro q rfl; exact Im.of_C kSe_heap hr hc))
end Go.Proofs.Ytjccgdnnnlgeeaa.XHand
end
section
-- Written by a program of this session (wip/tools/xprint.py), which drives the kit's print.
namespace Go.Proofs.Ytjccgdnnnlgeeaa.frameTables
open Go.ChangeShapes Go.WideShapes Go.ChangeAt Go.RowKit Go.Proofs.YtjccgdnnnlgeeaaW.PrintWords Go.Proofs.YtjccgdnnnlgeeaaW.PrintLast Go.Proofs.YtjccgdnnnlgeeaaW.PrintMore Go.Proofs.Ytjccgdnnnlgeeaa.XOpen Go.Proofs.Ytjccgdnnnlgeeaa.PA
open Go.ChangeMaps (open_string shut_string)
set_option linter.unusedVariables false
set_option linter.unusedSimpArgs false
theorem own : ownKnob Try.prog.godebug = none := by kernel_rfl
theorem laidOut : laidOutB Try.prog = true := by kernel_rfl
theorem opens23 : Opens Try.prog 23 k23 Ok23 := Opens.iso (Opens.struct [3, 3, 3, 9] [1, 1, 1, 1] Try.underlying23 (by kernel_rfl) (by kernel_rfl) (by kernel_rfl) (by kernel_rfl) (OpensL.cons (Opens.int Try.underlying3) (OpensL.cons (Opens.int Try.underlying3) (OpensL.cons (Opens.int Try.underlying3) (OpensL.one (Opens.string Try.underlying9)))))) (fun x : S23 => (x.f0, x.f1, x.f2, x.f3)) (fun a => (⟨a.1, a.2.1, a.2.2.1, a.2.2.2⟩ : S23)) (fun _ => rfl)
theorem opens52 : Opens Try.prog 52 k52 Ok52 := Opens.iso (Opens.struct [9, 23] [1, 4] Try.underlying52 (by kernel_rfl) (by kernel_rfl) (by kernel_rfl) (by kernel_rfl) (OpensL.cons (Opens.string Try.underlying9) (OpensL.one opens23))) (fun x : S52 => (x.f0, x.f1)) (fun a => (⟨a.1, a.2⟩ : S52)) (fun _ => rfl)
set_option maxRecDepth 100000 in
theorem lifted (os : Os) (started : os.Started) (H : Type) (enc : TypeId × Value → H) :
  ReturnsInHanded {} Try.checked os 7 .any (Rows.frameTablesSpec.pre6 enc Try.prog Try.f7 Rows.frameTablesRow.domain false) (Rows.frameTablesSpec.post enc Try.prog Try.f7 false true false false) := by
 refine returnsInHanded_of_change_sized (C := Try.checked) own started (by kernel_rfl) Try.func7
  (ChangeSpec.witness6 (enc := enc) (C := Try.checked) false ⟨#[], #[.slice none 0 0, .int .i64 0], []⟩ 8 (by kernel_rfl) (by kernel_rfl) (by kernel_rfl) (by kernel_rfl)) ?_
 intro W base args ds gs before hval0 hW hcnd hsz0 _
 have hsz : (DataW.weightsEach Try.prog (Try.f7.params.toList ++ Rows.frameTablesSpec.plain.varTypes Try.prog) (ds ++ gs)).all (· ≤ reachBytes) = true := hsz0
 have hval : ∀ (j : Nat) t v, Try.f7.params[j]? = some t → args[j]? = some v → Value.okWide Try.prog W .any base t v := hval0
 have hW' := hW
 obtain ⟨p, q, hA0, hV, rfl, hfz, hnd⟩ := hW
 have hA : DataW.TrodAll enc Try.prog W 0 (fun _ => true) true Try.f7.params.toList args.toList ds p := hA0
 rw [Try.params7] at hA hval hsz
 obtain ⟨v0, vs0, d0, ds0, p0, q0, hargs, rfl, rfl, h0, r0⟩ := trodAll_cons hA
 obtain ⟨v1, vs1, d1, ds1, p1, q1, rfl, rfl, rfl, h1, r1⟩ := trodAll_cons r0
 obtain ⟨rfl, rfl, rfl⟩ := trodAll_nil r1
 obtain rfl : args = #[v0, v1] := by cases args; simp_all
 obtain ⟨rfl, rfl⟩ := trodVars_none hV
 have k0 := h0
 have lt0 : ∀ x ∈ p0, x.block < W.heap.size := by obtain ⟨m, hm⟩ := k0; exact DataW.trod_lt m _ _ _ hm
 obtain ⟨a0, len0, cap0, rfl⟩ := okWide_slice Try.underlying25 (hval 0 25 v0 rfl rfl)
 obtain ⟨x0, g0, o0⟩ : ∃ x, (Kd.slice 52 k52).K W x [.slice a0 len0 cap0] ∧ (x.length ≤ maxLen ∧ ∀ y_ ∈ x, Ok52 y_) := by
  obtain ⟨fuel, hf⟩ := h0
  exact (Opens.slice Try.underlying25 (by kernel_rfl) z52 opens52) enc W 0 _ true fuel _ _ hf
 obtain ⟨A0, c0, e0, hc0, hr0⟩ := g0
 obtain ⟨rfl, rfl, rfl⟩ : a0 = A0 ∧ len0 = x0.length ∧ cap0 = c0 := by simpa using e0
 obtain ⟨a1, rfl, rfl, rfl, w1⟩ := open_int Try.underlying3 (hval 1 3 v1 rfl rfl) h1
 clear hA0 hval0 hsz0 hsz
 refine (Go.Proofs.Ytjccgdnnnlgeeaa.XHand.frameTables_walk _ _ x0 a1 W hr0 hc0 o0.1 o0.2 w1).mono fun e W' ⟨he, bel⟩ => ?_
 subst he
 exact ⟨_, rfl, _, _, _, [], _, [], hW', trodAll_mk1 (shut_bool Try.underlying4 _), (trodAll_cons_mk (Below.trod laidOut (by kernel_rfl) (of_decide_eq_true (by kernel_rfl)) k0 bel lt0) (trodAll_cons_mk (shut_int Try.underlying3 w1) trodAll_mk0)), rfl, bel.frame _, fun h => by cases h⟩
theorem over : Rows.frameTablesRow.holds Try.pinned (OpenSpec.ofChange Rows.frameTablesSpec) :=
 OpenClaim.holds_of_wide 7 Try.f7 rfl rfl rfl rfl rfl rfl rfl ⟨rfl, rfl, rfl, rfl, rfl⟩ rfl rfl rfl rfl rfl (by kernel_rfl) Try.func7 (by kernel_rfl)
  (of_decide_eq_true (by kernel_rfl)) (by unfold Func.isWrapper; first | (rw [if_pos (by decide +kernel)]; kernel_rfl) | (rw [if_neg (by decide +kernel)]; exact ⟨rfl, rfl⟩))
  (fun os started H enc _ => lifted os started H enc)
theorem proved : Rows.FrameTablesSaid := over
#print axioms proved
end Go.Proofs.Ytjccgdnnnlgeeaa.frameTables
namespace Go.Proofs.Ytjccgdnnnlgeeaa
/-- The row, under a short name, for the claim. -/
theorem frameTables_holds : Rows.FrameTablesSaid := frameTables.proved
end Go.Proofs.Ytjccgdnnnlgeeaa
end
