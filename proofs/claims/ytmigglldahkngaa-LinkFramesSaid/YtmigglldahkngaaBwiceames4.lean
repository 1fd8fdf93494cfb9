-- Several texts in one, without what the law does not use (wip/tools/bundle.py).
import Derived.Test.YtmigglldahkngaaBwiceames3

section
/- Links in plain lists: a new one, what is pushed, asked and told; two lists of frames that are the same. -/
namespace Go.Proofs.Ytmigglldahkngaa.XV17
open Go.RowKit Go.Proofs.Ytmigglldahkngaa.PA Go.Proofs.YtmigglldahkngaaW.PrintWords Go.Proofs.YtmigglldahkngaaW.PrintLast Go.Proofs.Ytmigglldahkngaa.XGen
open Go.Proofs.Ytmigglldahkngaa.XPlace (idx is)
open Go.Proofs.Ytmigglldahkngaa.XTell (emitP nextP)
open Go.Proofs.Ytmigglldahkngaa.XPace (TK)
open Go.Proofs.Ytmigglldahkngaa.XSum (sumB)
set_option linter.unusedVariables false
set_option linter.unusedSimpArgs false
abbrev Fr := S60
/-- Whether a config may be. -/
def CfP (c0 c1 c2 c3 : Int) : Prop := 1 ≤ c0 ∧ c0 ≤ 16 ∧ 1 ≤ c1 ∧ c1 ≤ 64 ∧ 1 ≤ c2 ∧ c2 ≤ 16 ∧ 1 ≤ c3 ∧ c3 ≤ 1000
instance (c0 c1 c2 c3 : Int) : Decidable (CfP c0 c1 c2 c3) := by unfold CfP; infer_instance
def newK (c0 c1 c2 c3 n : Int) : Int × List Ch × Bool × Int × Int × Bool × Int × Int :=
 if CfP c0 c1 c2 c3 ∧ 0 ≤ n ∧ n ≤ 1099511627776 then (0, [], false, c1, n, true, n, 0) else (0, [], false, 0, 0, false, 0, 1)
theorem newK_b (c0 c1 c2 c3 n : Int) : link_New.f c0 c1 c2 c3 n = some (newK c0 c1 c2 c3 n) := by
 unfold link_New.f pace_New.f newK
 rw [paceMay_b, XPace.within_f]
 simp only [Option.bind_some, decide_eq_true_eq]
 by_cases h1 : CfP c0 c1 c2 c3
 ·have h1' := h1
  unfold CfP at h1'
  rw [if_pos h1']
  by_cases h2 : 0 ≤ n ∧ n ≤ 1099511627776
  ·rw [if_pos h2, if_pos ⟨h1, h2⟩]; simp
  ·rw [if_neg h2, if_neg (fun h => h2 h.2)]; simp
 ·have h1' := h1
  unfold CfP at h1'
  rw [if_neg h1', if_neg (fun h => h1 h.1)]; simp
theorem same18 (k : Nat) (s : Int) (q : List Ch) (lat : Bool) (t a : Int) (sn : Bool) (d : Int) (hq : q.length ≤ 1000) (hk : 1001 < k) : rollcallref18_Same.f k s q lat t a sn d s q lat t a sn d = some true := by
 unfold rollcallref18_Same.f
 rw [if_pos rfl, same_f k q lat (by omega) (by omega)]
 simp
theorem quiet_b (s : Int) (q : List Ch) (lat : Bool) (t a : Int) (sn : Bool) (d : Int) : link_Quiet.f s q lat t a sn d = some (!sn && (decide (q.length = 0) && !lat)) := by
 unfold link_Quiet.f
 rw [empty_b]
 cases sn <;> rfl
/-- What is pushed on a link. -/
def pushK (c0 s : Int) (q : List Ch) (lat : Bool) (t a : Int) (sn : Bool) (d : Int) (x : Ch) : Int × List Ch × Bool × Int × Int × Bool × Int :=
 if sn = true then (s, q, lat, t, a, sn, d) else if (PU q lat x c0).2 = true then (s, [], false, t, a, true, d) else (s, (PU q lat x c0).1, (PU q lat x c0).2, t, a, sn, d)
theorem few18_f (k : Nat) (s : Int) (l : List Ch) (b : Bool) (t a : Int) (sn : Bool) (d : Int) (hk : 60 ≤ k) : ∃ q, rollcallref18_Few.f k s l b t a sn d = some q ∧ (q = true → l.length ≤ 30) := by
 obtain ⟨q, h1, h2⟩ := few_f k l b hk
 refine ⟨q, ?_, h2⟩
 unfold rollcallref18_Few.f
 rw [h1]; rfl
/-! ### what is told -/
/-- How often something may be told at most. -/
def rounds (c3 now : Int) (st : XTell.St) : Nat := (if st.sn = true then 1 else 0) + st.q.length + (if now - st.dg < c3 then 0 else 1)
theorem next_less {c3 now : Int} {t : List XSum.Se} {st : XTell.St} {f : Fr} {q : List Ch} {sn : Bool} {dg : Int} (h3 : 1 ≤ c3) (h : nextP c3 now t st = some (f, q, sn, dg)) (s tok at_ : Int) (fs : List Fr) :
  rounds c3 now ⟨s, q, sn, tok, at_, dg, fs⟩ < rounds c3 now st := by
 unfold nextP at h
 unfold rounds
 obtain ⟨s0, q0, sn0, t0, a0, d0, f0⟩ := st
 dsimp only at h ⊢
 cases sn0 with
 | true =>
  rw [if_pos rfl] at h
  simp only [Option.some.injEq, Prod.mk.injEq] at h
  obtain ⟨_, rfl, rfl, rfl⟩ := h
  simp only [if_pos, Int.sub_self, if_neg Bool.false_ne_true, if_pos (show (0 : Int) < c3 by omega)]
  split <;> omega
 | false =>
  rw [if_neg (by simp)] at h
  cases q0 with
  | cons x l =>
   simp only [Option.some.injEq, Prod.mk.injEq] at h
   obtain ⟨_, rfl, rfl, rfl⟩ := h
   simp
  | nil =>
   by_cases hd : now - d0 < c3
   ·simp only [if_pos hd] at h
    cases h
   ·simp only [if_neg hd, Option.some.injEq, Prod.mk.injEq] at h
    obtain ⟨_, rfl, rfl, rfl⟩ := h
    simp only [Int.sub_self, if_pos (show (0 : Int) < c3 by omega), if_neg hd]
    simp
theorem emit_all (c0 c1 c2 c3 now : Int) (t : List XSum.Se) (h3 : 1 ≤ c3) : ∀ (k : Nat) (st : XTell.St), rounds c3 now st < k → ∃ R, emitP c0 c1 c2 c3 now t k st = some R ∧ R.fs.length + rounds c3 now R ≤ st.fs.length + rounds c3 now st ∧ R.q.length ≤ st.q.length ∧ ((∀ f ∈ st.fs, f.f6 = t ∨ f.f6 = []) → ∀ f ∈ R.fs, f.f6 = t ∨ f.f6 = []) := by
 intro k
 induction k with
 | zero => intro st h; omega
 | succ k ih =>
  intro st h
  rw [emitP]
  by_cases h1 : st.s < 1099511627776
  rotate_left
  ·exact ⟨st, by rw [if_neg h1], Nat.le_refl _, Nat.le_refl _, fun h => h⟩
  rw [if_pos h1]
  by_cases h2 : (TK c0 c1 c2 c3 st.tok st.at_ now).2.2 = true
  rotate_left
  ·exact ⟨st, by rw [if_neg h2], Nat.le_refl _, Nat.le_refl _, fun h => h⟩
  rw [if_pos h2]
  rcases hn : nextP c3 now t st with _ | ⟨f, q, sn, dg⟩
  ·exact ⟨st, rfl, Nat.le_refl _, Nat.le_refl _, fun h => h⟩
  ·have hlt := next_less h3 hn (st.s + 1) (TK c0 c1 c2 c3 st.tok st.at_ now).1 (TK c0 c1 c2 c3 st.tok st.at_ now).2.1 (st.fs ++ [f])
   obtain ⟨R, hR, hA, hB, hC⟩ := ih ⟨st.s + 1, q, sn, (TK c0 c1 c2 c3 st.tok st.at_ now).1, (TK c0 c1 c2 c3 st.tok st.at_ now).2.1, dg, st.fs ++ [f]⟩ (by omega)
   refine ⟨R, hR, ?_, ?_, fun hf => hC fun g hg => ?_⟩
   ·simp only [List.length_append, List.length_cons, List.length_nil] at hA
    omega
   ·refine Nat.le_trans hB ?_
    show q.length ≤ st.q.length
    unfold nextP at hn
    split at hn
    ·simp only [Option.some.injEq, Prod.mk.injEq] at hn
     obtain ⟨_, rfl, _⟩ := hn
     exact Nat.le_refl _
    ·split at hn
     ·rename_i e
      simp only [Option.some.injEq, Prod.mk.injEq] at hn
      obtain ⟨_, rfl, _⟩ := hn
      rw [e]; simp
     ·split at hn
      ·cases hn
      ·simp only [Option.some.injEq, Prod.mk.injEq] at hn
       obtain ⟨_, rfl, _⟩ := hn
       simp
   ·rcases List.mem_append.1 hg with hg | hg
    ·exact hf g hg
    ·rw [List.mem_singleton] at hg
     subst hg
     unfold nextP at hn
     split at hn
     ·simp only [Option.some.injEq, Prod.mk.injEq] at hn
      obtain ⟨rfl, _⟩ := hn
      exact .inl rfl
     ·split at hn
      ·simp only [Option.some.injEq, Prod.mk.injEq] at hn
       obtain ⟨rfl, _⟩ := hn
       exact .inr rfl
      ·split at hn
       ·cases hn
       ·simp only [Option.some.injEq, Prod.mk.injEq] at hn
        obtain ⟨rfl, _⟩ := hn
        exact .inr rfl
theorem rdF_at (l : List Fr) (j : Nat) (h : j < l.length) : rd_T60 l (j : Int) = l[j] := by
 unfold rd_T60
 rw [Int.toNat_natCast, getD_lt l _ j h]
end Go.Proofs.Ytmigglldahkngaa.XV17
end

section
/- A change that is pushed on a link (and on the reference's), walked; what a link tells, over Kn. -/
namespace Go.Proofs.Ytmigglldahkngaa.XTell
open Go.RowKit Go.Proofs.YtmigglldahkngaaW.PrintWords Go.Proofs.YtmigglldahkngaaW.PrintLast Go.Proofs.YtmigglldahkngaaW.PrintMore Go.Proofs.Ytmigglldahkngaa.PA Go.Proofs.Ytmigglldahkngaa.XMem Go.Proofs.Ytmigglldahkngaa.XSum Go.Proofs.Ytmigglldahkngaa.XSt Go.Proofs.Ytmigglldahkngaa.XKn
open Go.Proofs.Ytmigglldahkngaa.XV17 (mayT mayK pushK PU push_f linkMayK digMayT_b ltime_b mayK_iff)
set_option linter.unusedVariables false
set_option linter.unusedSimpArgs false
set_option maxRecDepth 100000
abbrev TCf : TypeId := 23
theorem queue_Push.kn {w : World} {P0_0_ : Nat → Prop} {A0_0 : Option Addr} {c0_0 : Nat} {l0_0 : List (S34)} {a0_1 : Bool} {a1_0 : ByteArray} {a1_1 : Bool} {a1_2 : Int} {a1_3 : Int} {a1_4 : Int} {a1_5 : ByteArray} {a2 : Int} {r1 : List (S34)} {r2 : Bool} (h : queue_Push.f l0_0 a0_1 a1_0 a1_1 a1_2 a1_3 a1_4 a1_5 a2 = some (r1, r2)) (g1 : (V k34 (.slice A0_0 l0_0.length c0_0) l0_0).P w P0_0_) :
  Calls Try.prog 48 #[.agg #[.slice A0_0 l0_0.length c0_0, .bool a0_1], .agg #[.string a1_0, .bool a1_1, .int .i64 a1_2, .int .i64 a1_3, .int .i64 a1_4, .string a1_5], .int .i64 a2] w fun e w' => ∃ (Av0_ : Option Addr) (cv0_ : Nat), e = .returned (.agg #[(.slice Av0_ r1.length cv0_), .bool r2]) ∧ (V k34 (.slice Av0_ r1.length cv0_) r1).P w' (fun k_ => (P0_0_ k_ ∨ w.heap.size ≤ k_)) ∧ Below w.heap.size w w' := by
 refine (queue_Push.calls P0_0_ A0_0 c0_0 l0_0 a0_1 a1_0 a1_1 a1_2 a1_3 a1_4 a1_5 a2 r1 r2 w (V_to g1 _ _) h).mono ?_
 rintro e w' ⟨v0_, y0, y1, y2⟩
 have z1 := V_any y1
 obtain ⟨Av0_, cv0_, rfl⟩ := Kd.V_slice (e := 0) (base := 0) z1
 exact ⟨Av0_, cv0_, y0, z1, y2⟩
set_option maxHeartbeats 8000000 in
theorem push_go (ok : Nat → Prop) (c0 c1 c2 c3 s : Int) (A : Option Addr) (cc : Nat) (q : List Ch) (lat : Bool) (tok at_ : Int) (sn : Bool) (dg : Int) (x : Ch) (r0 : Int) (r1 : List Ch) (r2 : Bool) (r3 r4 : Int) (r5 : Bool) (r6 : Int) (w0 w : World)
  (S : Kn ok w0 [] nil tt [V kCh (.slice A q.length cc) q] w) (hq : q.length ≤ 1000) (h : pushK c0 s q lat tok at_ sn dg x = (r0, r1, r2, r3, r4, r5, r6)) :
  Calls Try.prog 19 #[.agg #[.int .i64 c0, .int .i64 c1, .int .i64 c2, .int .i64 c3], .agg #[.int .i64 s, .slice A q.length cc, .bool lat, .int .i64 tok, .int .i64 at_, .bool sn, .int .i64 dg], .agg #[.string x.f0, .bool x.f1, .int .i64 x.f2.f0, .int .i64 x.f2.f1, .int .i64 x.f2.f2, .string x.f2.f3]] w
   fun e w' => ∃ (A' : Option Addr) (c' : Nat), e = .returned (.agg #[.int .i64 r0, .slice A' r1.length c', .bool r2, .int .i64 r3, .int .i64 r4, .bool r5, .int .i64 r6]) ∧ (V kCh (.slice A' r1.length c') r1).P w' (fun k => ok k ∨ w0.heap.size ≤ k) ∧ Below w0.heap.size w0 w' := by
 unfold pushK at h
 have HH := Aside0.mk h
 have HQ := Aside0.mk (show queue_Push.f q lat x.f0 x.f1 x.f2.f0 x.f2.f1 x.f2.f2 x.f2.f3 c0 = some (PU q lat x c0) from push_f q lat x c0 (by omega))
 clear h hq
 go_enter Try.func19, Try.ntmps19
 go_upto_region 1 with (fail)
 generalize hg : World.alloc _ _ = w1
 replace S := S.new4 hg
 clear hg
 generalize w.heap.size + 3 = p6 at S ⊢
 generalize w.heap.size + 2 = p5 at S ⊢
 generalize w.heap.size + 1 = p4 at S ⊢
 generalize w.heap.size = p3 at S ⊢
 replace S : Kn ok w0 [(p6, .cells #[.int .i64 0, .slice none 0 0, .bool false, .int .i64 0, .int .i64 0, .bool false, .int .i64 0] TLk (0, 0)), (p5, .cells #[.string x.f0, .bool x.f1, .int .i64 x.f2.f0, .int .i64 x.f2.f1, .int .i64 x.f2.f2, .string x.f2.f3] TCh (0, 0)), (p4, .cells #[.int .i64 s, .slice A q.length cc, .bool lat, .int .i64 tok, .int .i64 at_, .bool sn, .int .i64 dg] TLk (0, 0)), (p3, .cells #[.int .i64 c0, .int .i64 c1, .int .i64 c2, .int .i64 c3] TCf (0, 0))] nil tt [V kCh (.slice A q.length cc) q] w1 := S
 cases sn with
 | true =>
  replace S : Kn ok w0 [(p6, .cells #[.int .i64 0, .slice none 0 0, .bool false, .int .i64 0, .int .i64 0, .bool false, .int .i64 0] TLk (0, 0)), (p5, .cells #[.string x.f0, .bool x.f1, .int .i64 x.f2.f0, .int .i64 x.f2.f1, .int .i64 x.f2.f2, .string x.f2.f3] TCh (0, 0)), (p4, .cells #[.int .i64 s, .slice A q.length cc, .bool lat, .int .i64 tok, .int .i64 at_, .bool true, .int .i64 dg] TLk (0, 0)), (p3, .cells #[.int .i64 c0, .int .i64 c1, .int .i64 c2, .int .i64 c3] TCf (0, 0))] nil tt [V kCh (.slice A q.length cc) q] w1 := S
  have h := HH.out
  rw [if_pos rfl] at h
  simp only [Prod.mk.injEq] at h
  obtain ⟨rfl, rfl, rfl, rfl, rfl, rfl, rfl⟩ := h
  clear HH HQ
  have l_0 : w1.cell? ⟨p4, 0, none⟩ = some (.int .i64 s) := S.cell 2 0 rfl rfl
  have l_1 : w1.cell? ⟨p4, 1, none⟩ = some (.slice A q.length cc) := S.cell 2 1 rfl rfl
  have l_2 : w1.cell? ⟨p4, 2, none⟩ = some (.bool lat) := S.cell 2 2 rfl rfl
  have l_3 : w1.cell? ⟨p4, 3, none⟩ = some (.int .i64 tok) := S.cell 2 3 rfl rfl
  have l_4 : w1.cell? ⟨p4, 4, none⟩ = some (.int .i64 at_) := S.cell 2 4 rfl rfl
  have l_5 : w1.cell? ⟨p4, 5, none⟩ = some (.bool true) := S.cell 2 5 rfl rfl
  have l_6 : w1.cell? ⟨p4, 6, none⟩ = some (.int .i64 dg) := S.cell 2 6 rfl rfl
  have r_0 : w1.cell? ⟨p6, 0, none⟩ = some (.int .i64 0) := S.cell 0 0 rfl rfl
  have zr_0 : w1.frozen? ⟨p6, 0, none⟩ = false := S.frozen 0 0 rfl
  have r_1 : w1.cell? ⟨p6, 1, none⟩ = some (.slice none 0 0) := S.cell 0 1 rfl rfl
  have zr_1 : w1.frozen? ⟨p6, 1, none⟩ = false := S.frozen 0 1 rfl
  have r_2 : w1.cell? ⟨p6, 2, none⟩ = some (.bool false) := S.cell 0 2 rfl rfl
  have zr_2 : w1.frozen? ⟨p6, 2, none⟩ = false := S.frozen 0 2 rfl
  have r_3 : w1.cell? ⟨p6, 3, none⟩ = some (.int .i64 0) := S.cell 0 3 rfl rfl
  have zr_3 : w1.frozen? ⟨p6, 3, none⟩ = false := S.frozen 0 3 rfl
  have r_4 : w1.cell? ⟨p6, 4, none⟩ = some (.int .i64 0) := S.cell 0 4 rfl rfl
  have zr_4 : w1.frozen? ⟨p6, 4, none⟩ = false := S.frozen 0 4 rfl
  have r_5 : w1.cell? ⟨p6, 5, none⟩ = some (.bool false) := S.cell 0 5 rfl rfl
  have zr_5 : w1.frozen? ⟨p6, 5, none⟩ = false := S.frozen 0 5 rfl
  have r_6 : w1.cell? ⟨p6, 6, none⟩ = some (.int .i64 0) := S.cell 0 6 rfl rfl
  have zr_6 : w1.frozen? ⟨p6, 6, none⟩ = false := S.frozen 0 6 rfl
  go_wp2
  clear l_0 l_1 l_2 l_3 l_4 l_5 l_6 r_0 zr_0 r_1 zr_1 r_2 zr_2 r_3 zr_3 r_4 zr_4 r_5 zr_5 r_6 zr_6
  generalize hg : World.setCell w1 ⟨p6, 0, none⟩ _ = w2
  replace S := S.set 0 hg rfl
  clear hg
  generalize hg : World.setCell w2 ⟨p6, 1, none⟩ _ = w3
  replace S := S.set 0 hg rfl
  clear hg
  generalize hg : World.setCell w3 ⟨p6, 2, none⟩ _ = w4
  replace S := S.set 0 hg rfl
  clear hg
  generalize hg : World.setCell w4 ⟨p6, 3, none⟩ _ = w5
  replace S := S.set 0 hg rfl
  clear hg
  generalize hg : World.setCell w5 ⟨p6, 4, none⟩ _ = w6
  replace S := S.set 0 hg rfl
  clear hg
  generalize hg : World.setCell w6 ⟨p6, 5, none⟩ _ = w7
  replace S := S.set 0 hg rfl
  clear hg
  generalize hg : World.setCell w7 ⟨p6, 6, none⟩ _ = w8
  replace S := S.set 0 hg rfl
  clear hg
  replace S : Kn ok w0 [(p6, .cells #[.int .i64 s, .slice A q.length cc, .bool lat, .int .i64 tok, .int .i64 at_, .bool true, .int .i64 dg] TLk (0, 0)), (p5, .cells #[.string x.f0, .bool x.f1, .int .i64 x.f2.f0, .int .i64 x.f2.f1, .int .i64 x.f2.f2, .string x.f2.f3] TCh (0, 0)), (p4, .cells #[.int .i64 s, .slice A q.length cc, .bool lat, .int .i64 tok, .int .i64 at_, .bool true, .int .i64 dg] TLk (0, 0)), (p3, .cells #[.int .i64 c0, .int .i64 c1, .int .i64 c2, .int .i64 c3] TCf (0, 0))] nil tt [V kCh (.slice A q.length cc) q] w8 := S
  have b6 := S.get 0 rfl
  have hV := S.out 0 rfl
  have hBe := S.bel
  clear S
  refine bodyPost_ret (results_cell_row rfl _ _ p6 TLk #[.int .i64 s, .slice A q.length cc, .bool lat, .int .i64 tok, .int .i64 at_, .bool true, .int .i64 dg] (0, 0) _ rfl b6 Try.underlying30 rfl (by kernel_rfl)) rfl ?_
  exact ⟨A, cc, rfl, hV, hBe⟩
 | false =>
  replace S : Kn ok w0 [(p6, .cells #[.int .i64 0, .slice none 0 0, .bool false, .int .i64 0, .int .i64 0, .bool false, .int .i64 0] TLk (0, 0)), (p5, .cells #[.string x.f0, .bool x.f1, .int .i64 x.f2.f0, .int .i64 x.f2.f1, .int .i64 x.f2.f2, .string x.f2.f3] TCh (0, 0)), (p4, .cells #[.int .i64 s, .slice A q.length cc, .bool lat, .int .i64 tok, .int .i64 at_, .bool false, .int .i64 dg] TLk (0, 0)), (p3, .cells #[.int .i64 c0, .int .i64 c1, .int .i64 c2, .int .i64 c3] TCf (0, 0))] nil tt [V kCh (.slice A q.length cc) q] w1 := S
  have h := HH.out
  rw [if_neg (by simp)] at h
  rcases hp : PU q lat x c0 with ⟨q2, lat2⟩
  rw [hp] at h HQ
  dsimp only at h
  replace HH := Aside0.mk h
  clear h hp
  have c_0 : w1.cell? ⟨p3, 0, none⟩ = some (.int .i64 c0) := S.cell 3 0 rfl rfl
  have l_0 : w1.cell? ⟨p4, 0, none⟩ = some (.int .i64 s) := S.cell 2 0 rfl rfl
  have l_1 : w1.cell? ⟨p4, 1, none⟩ = some (.slice A q.length cc) := S.cell 2 1 rfl rfl
  have l_2 : w1.cell? ⟨p4, 2, none⟩ = some (.bool lat) := S.cell 2 2 rfl rfl
  have l_3 : w1.cell? ⟨p4, 3, none⟩ = some (.int .i64 tok) := S.cell 2 3 rfl rfl
  have l_4 : w1.cell? ⟨p4, 4, none⟩ = some (.int .i64 at_) := S.cell 2 4 rfl rfl
  have l_5 : w1.cell? ⟨p4, 5, none⟩ = some (.bool false) := S.cell 2 5 rfl rfl
  have l_6 : w1.cell? ⟨p4, 6, none⟩ = some (.int .i64 dg) := S.cell 2 6 rfl rfl
  have x_0 : w1.cell? ⟨p5, 0, none⟩ = some (.string x.f0) := S.cell 1 0 rfl rfl
  have x_1 : w1.cell? ⟨p5, 1, none⟩ = some (.bool x.f1) := S.cell 1 1 rfl rfl
  have x_2 : w1.cell? ⟨p5, 2, none⟩ = some (.int .i64 x.f2.f0) := S.cell 1 2 rfl rfl
  have x_3 : w1.cell? ⟨p5, 3, none⟩ = some (.int .i64 x.f2.f1) := S.cell 1 3 rfl rfl
  have x_4 : w1.cell? ⟨p5, 4, none⟩ = some (.int .i64 x.f2.f2) := S.cell 1 4 rfl rfl
  have x_5 : w1.cell? ⟨p5, 5, none⟩ = some (.string x.f2.f3) := S.cell 1 5 rfl rfl
  go_wp2_with fail
  refine (queue_Push.kn HQ.out (S.ft 0 rfl)).mono ?_
  rintro e w2 ⟨A2, y2, rfl, hV, hb⟩
  replace S := S.call (f := (V kCh (.slice A2 q2.length y2) q2)) hb hV
  clear c_0 l_0 l_1 l_2 l_3 l_4 l_5 l_6 x_0 x_1 x_2 x_3 x_4 x_5 hb hV HQ
  have l_1 : w2.cell? ⟨p4, 1, none⟩ = some (.slice A q.length cc) := S.cell 2 1 rfl rfl
  have zl_1 : w2.frozen? ⟨p4, 1, none⟩ = false := S.frozen 2 1 rfl
  have l_2 : w2.cell? ⟨p4, 2, none⟩ = some (.bool lat) := S.cell 2 2 rfl rfl
  have zl_2 : w2.frozen? ⟨p4, 2, none⟩ = false := S.frozen 2 2 rfl
  go_upto_region 4 with (fail)
  clear l_1 zl_1 l_2 zl_2
  generalize hg : World.setCell w2 ⟨p4, 1, none⟩ _ = w3
  replace S := S.set 2 hg rfl
  clear hg
  generalize hg : World.setCell w3 ⟨p4, 2, none⟩ _ = w4
  replace S := S.set 2 hg rfl
  clear hg
  replace S : Kn ok w0 [(p6, .cells #[.int .i64 0, .slice none 0 0, .bool false, .int .i64 0, .int .i64 0, .bool false, .int .i64 0] TLk (0, 0)), (p5, .cells #[.string x.f0, .bool x.f1, .int .i64 x.f2.f0, .int .i64 x.f2.f1, .int .i64 x.f2.f2, .string x.f2.f3] TCh (0, 0)), (p4, .cells #[.int .i64 s, .slice A2 q2.length y2, .bool lat2, .int .i64 tok, .int .i64 at_, .bool false, .int .i64 dg] TLk (0, 0)), (p3, .cells #[.int .i64 c0, .int .i64 c1, .int .i64 c2, .int .i64 c3] TCf (0, 0))] nil tt [V kCh (.slice A2 q2.length y2) q2, V kCh (.slice A q.length cc) q] w4 := S
  cases lat2 with
  | false =>
   replace S : Kn ok w0 [(p6, .cells #[.int .i64 0, .slice none 0 0, .bool false, .int .i64 0, .int .i64 0, .bool false, .int .i64 0] TLk (0, 0)), (p5, .cells #[.string x.f0, .bool x.f1, .int .i64 x.f2.f0, .int .i64 x.f2.f1, .int .i64 x.f2.f2, .string x.f2.f3] TCh (0, 0)), (p4, .cells #[.int .i64 s, .slice A2 q2.length y2, .bool false, .int .i64 tok, .int .i64 at_, .bool false, .int .i64 dg] TLk (0, 0)), (p3, .cells #[.int .i64 c0, .int .i64 c1, .int .i64 c2, .int .i64 c3] TCf (0, 0))] nil tt [V kCh (.slice A2 q2.length y2) q2, V kCh (.slice A q.length cc) q] w4 := S
   have h := HH.out
   rw [if_neg (by simp)] at h
   simp only [Prod.mk.injEq] at h
   obtain ⟨rfl, rfl, rfl, rfl, rfl, rfl, rfl⟩ := h
   clear HH
   have l_0 : w4.cell? ⟨p4, 0, none⟩ = some (.int .i64 s) := S.cell 2 0 rfl rfl
   have l_1 : w4.cell? ⟨p4, 1, none⟩ = some (.slice A2 q2.length y2) := S.cell 2 1 rfl rfl
   have l_2 : w4.cell? ⟨p4, 2, none⟩ = some (.bool false) := S.cell 2 2 rfl rfl
   have l_3 : w4.cell? ⟨p4, 3, none⟩ = some (.int .i64 tok) := S.cell 2 3 rfl rfl
   have l_4 : w4.cell? ⟨p4, 4, none⟩ = some (.int .i64 at_) := S.cell 2 4 rfl rfl
   have l_5 : w4.cell? ⟨p4, 5, none⟩ = some (.bool false) := S.cell 2 5 rfl rfl
   have l_6 : w4.cell? ⟨p4, 6, none⟩ = some (.int .i64 dg) := S.cell 2 6 rfl rfl
   have r_0 : w4.cell? ⟨p6, 0, none⟩ = some (.int .i64 0) := S.cell 0 0 rfl rfl
   have zr_0 : w4.frozen? ⟨p6, 0, none⟩ = false := S.frozen 0 0 rfl
   have r_1 : w4.cell? ⟨p6, 1, none⟩ = some (.slice none 0 0) := S.cell 0 1 rfl rfl
   have zr_1 : w4.frozen? ⟨p6, 1, none⟩ = false := S.frozen 0 1 rfl
   have r_2 : w4.cell? ⟨p6, 2, none⟩ = some (.bool false) := S.cell 0 2 rfl rfl
   have zr_2 : w4.frozen? ⟨p6, 2, none⟩ = false := S.frozen 0 2 rfl
   have r_3 : w4.cell? ⟨p6, 3, none⟩ = some (.int .i64 0) := S.cell 0 3 rfl rfl
   have zr_3 : w4.frozen? ⟨p6, 3, none⟩ = false := S.frozen 0 3 rfl
   have r_4 : w4.cell? ⟨p6, 4, none⟩ = some (.int .i64 0) := S.cell 0 4 rfl rfl
   have zr_4 : w4.frozen? ⟨p6, 4, none⟩ = false := S.frozen 0 4 rfl
   have r_5 : w4.cell? ⟨p6, 5, none⟩ = some (.bool false) := S.cell 0 5 rfl rfl
   have zr_5 : w4.frozen? ⟨p6, 5, none⟩ = false := S.frozen 0 5 rfl
   have r_6 : w4.cell? ⟨p6, 6, none⟩ = some (.int .i64 0) := S.cell 0 6 rfl rfl
   have zr_6 : w4.frozen? ⟨p6, 6, none⟩ = false := S.frozen 0 6 rfl
   go_wp2
   clear l_0 l_1 l_2 l_3 l_4 l_5 l_6 r_0 zr_0 r_1 zr_1 r_2 zr_2 r_3 zr_3 r_4 zr_4 r_5 zr_5 r_6 zr_6
   generalize hg : World.setCell w4 ⟨p6, 0, none⟩ _ = w5
   replace S := S.set 0 hg rfl
   clear hg
   generalize hg : World.setCell w5 ⟨p6, 1, none⟩ _ = w6
   replace S := S.set 0 hg rfl
   clear hg
   generalize hg : World.setCell w6 ⟨p6, 2, none⟩ _ = w7
   replace S := S.set 0 hg rfl
   clear hg
   generalize hg : World.setCell w7 ⟨p6, 3, none⟩ _ = w8
   replace S := S.set 0 hg rfl
   clear hg
   generalize hg : World.setCell w8 ⟨p6, 4, none⟩ _ = w9
   replace S := S.set 0 hg rfl
   clear hg
   generalize hg : World.setCell w9 ⟨p6, 5, none⟩ _ = w10
   replace S := S.set 0 hg rfl
   clear hg
   generalize hg : World.setCell w10 ⟨p6, 6, none⟩ _ = w11
   replace S := S.set 0 hg rfl
   clear hg
   replace S : Kn ok w0 [(p6, .cells #[.int .i64 s, .slice A2 q2.length y2, .bool false, .int .i64 tok, .int .i64 at_, .bool false, .int .i64 dg] TLk (0, 0)), (p5, .cells #[.string x.f0, .bool x.f1, .int .i64 x.f2.f0, .int .i64 x.f2.f1, .int .i64 x.f2.f2, .string x.f2.f3] TCh (0, 0)), (p4, .cells #[.int .i64 s, .slice A2 q2.length y2, .bool false, .int .i64 tok, .int .i64 at_, .bool false, .int .i64 dg] TLk (0, 0)), (p3, .cells #[.int .i64 c0, .int .i64 c1, .int .i64 c2, .int .i64 c3] TCf (0, 0))] nil tt [V kCh (.slice A2 q2.length y2) q2, V kCh (.slice A q.length cc) q] w11 := S
   have b6 := S.get 0 rfl
   have hV := S.out 0 rfl
   have hBe := S.bel
   clear S
   refine bodyPost_ret (results_cell_row rfl _ _ p6 TLk #[.int .i64 s, .slice A2 q2.length y2, .bool false, .int .i64 tok, .int .i64 at_, .bool false, .int .i64 dg] (0, 0) _ rfl b6 Try.underlying30 rfl (by kernel_rfl)) rfl ?_
   exact ⟨A2, y2, rfl, hV, hBe⟩
  | true =>
   replace S : Kn ok w0 [(p6, .cells #[.int .i64 0, .slice none 0 0, .bool false, .int .i64 0, .int .i64 0, .bool false, .int .i64 0] TLk (0, 0)), (p5, .cells #[.string x.f0, .bool x.f1, .int .i64 x.f2.f0, .int .i64 x.f2.f1, .int .i64 x.f2.f2, .string x.f2.f3] TCh (0, 0)), (p4, .cells #[.int .i64 s, .slice A2 q2.length y2, .bool true, .int .i64 tok, .int .i64 at_, .bool false, .int .i64 dg] TLk (0, 0)), (p3, .cells #[.int .i64 c0, .int .i64 c1, .int .i64 c2, .int .i64 c3] TCf (0, 0))] nil tt [V kCh (.slice A2 q2.length y2) q2, V kCh (.slice A q.length cc) q] w4 := S
   have h := HH.out
   rw [if_pos rfl] at h
   simp only [Prod.mk.injEq] at h
   obtain ⟨rfl, rfl, rfl, rfl, rfl, rfl, rfl⟩ := h
   clear HH
   have l_0 : w4.cell? ⟨p4, 0, none⟩ = some (.int .i64 s) := S.cell 2 0 rfl rfl
   have l_1 : w4.cell? ⟨p4, 1, none⟩ = some (.slice A2 q2.length y2) := S.cell 2 1 rfl rfl
   have l_2 : w4.cell? ⟨p4, 2, none⟩ = some (.bool true) := S.cell 2 2 rfl rfl
   have l_3 : w4.cell? ⟨p4, 3, none⟩ = some (.int .i64 tok) := S.cell 2 3 rfl rfl
   have l_4 : w4.cell? ⟨p4, 4, none⟩ = some (.int .i64 at_) := S.cell 2 4 rfl rfl
   have l_5 : w4.cell? ⟨p4, 5, none⟩ = some (.bool false) := S.cell 2 5 rfl rfl
   have l_6 : w4.cell? ⟨p4, 6, none⟩ = some (.int .i64 dg) := S.cell 2 6 rfl rfl
   go_wp2_with fail
   refine (link_Ask.kn (r1 := s) (r2 := []) (r3 := false) (r4 := tok) (r5 := at_) (r6 := true) (r7 := dg) rfl (S.ft 0 rfl)).mono ?_
   rintro e w5 ⟨A3, c3', rfl, hV, hb⟩
   replace S := S.call (f := (V kCh (.slice A3 ([] : List Ch).length c3') ([] : List Ch))) hb (fresh hV)
   clear l_0 l_1 l_2 l_3 l_4 l_5 l_6 hb hV
   have r_0 : w5.cell? ⟨p6, 0, none⟩ = some (.int .i64 0) := S.cell 0 0 rfl rfl
   have zr_0 : w5.frozen? ⟨p6, 0, none⟩ = false := S.frozen 0 0 rfl
   have r_1 : w5.cell? ⟨p6, 1, none⟩ = some (.slice none 0 0) := S.cell 0 1 rfl rfl
   have zr_1 : w5.frozen? ⟨p6, 1, none⟩ = false := S.frozen 0 1 rfl
   have r_2 : w5.cell? ⟨p6, 2, none⟩ = some (.bool false) := S.cell 0 2 rfl rfl
   have zr_2 : w5.frozen? ⟨p6, 2, none⟩ = false := S.frozen 0 2 rfl
   have r_3 : w5.cell? ⟨p6, 3, none⟩ = some (.int .i64 0) := S.cell 0 3 rfl rfl
   have zr_3 : w5.frozen? ⟨p6, 3, none⟩ = false := S.frozen 0 3 rfl
   have r_4 : w5.cell? ⟨p6, 4, none⟩ = some (.int .i64 0) := S.cell 0 4 rfl rfl
   have zr_4 : w5.frozen? ⟨p6, 4, none⟩ = false := S.frozen 0 4 rfl
   have r_5 : w5.cell? ⟨p6, 5, none⟩ = some (.bool false) := S.cell 0 5 rfl rfl
   have zr_5 : w5.frozen? ⟨p6, 5, none⟩ = false := S.frozen 0 5 rfl
   have r_6 : w5.cell? ⟨p6, 6, none⟩ = some (.int .i64 0) := S.cell 0 6 rfl rfl
   have zr_6 : w5.frozen? ⟨p6, 6, none⟩ = false := S.frozen 0 6 rfl
   go_wp2
   clear r_0 zr_0 r_1 zr_1 r_2 zr_2 r_3 zr_3 r_4 zr_4 r_5 zr_5 r_6 zr_6
   generalize hg : World.setCell w5 ⟨p6, 0, none⟩ _ = w6
   replace S := S.set 0 hg rfl
   clear hg
   generalize hg : World.setCell w6 ⟨p6, 1, none⟩ _ = w7
   replace S := S.set 0 hg rfl
   clear hg
   generalize hg : World.setCell w7 ⟨p6, 2, none⟩ _ = w8
   replace S := S.set 0 hg rfl
   clear hg
   generalize hg : World.setCell w8 ⟨p6, 3, none⟩ _ = w9
   replace S := S.set 0 hg rfl
   clear hg
   generalize hg : World.setCell w9 ⟨p6, 4, none⟩ _ = w10
   replace S := S.set 0 hg rfl
   clear hg
   generalize hg : World.setCell w10 ⟨p6, 5, none⟩ _ = w11
   replace S := S.set 0 hg rfl
   clear hg
   generalize hg : World.setCell w11 ⟨p6, 6, none⟩ _ = w12
   replace S := S.set 0 hg rfl
   clear hg
   replace S : Kn ok w0 [(p6, .cells #[.int .i64 s, .slice A3 ([] : List Ch).length c3', .bool false, .int .i64 tok, .int .i64 at_, .bool true, .int .i64 dg] TLk (0, 0)), (p5, .cells #[.string x.f0, .bool x.f1, .int .i64 x.f2.f0, .int .i64 x.f2.f1, .int .i64 x.f2.f2, .string x.f2.f3] TCh (0, 0)), (p4, .cells #[.int .i64 s, .slice A2 q2.length y2, .bool true, .int .i64 tok, .int .i64 at_, .bool false, .int .i64 dg] TLk (0, 0)), (p3, .cells #[.int .i64 c0, .int .i64 c1, .int .i64 c2, .int .i64 c3] TCf (0, 0))] nil tt [V kCh (.slice A3 ([] : List Ch).length c3') ([] : List Ch), V kCh (.slice A2 q2.length y2) q2, V kCh (.slice A q.length cc) q] w12 := S
   have b6 := S.get 0 rfl
   have hV := S.out 0 rfl
   have hBe := S.bel
   clear S
   refine bodyPost_ret (results_cell_row rfl _ _ p6 TLk #[.int .i64 s, .slice A3 ([] : List Ch).length c3', .bool false, .int .i64 tok, .int .i64 at_, .bool true, .int .i64 dg] (0, 0) _ rfl b6 Try.underlying30 rfl (by kernel_rfl)) rfl ?_
   exact ⟨A3, c3', rfl, hV, hBe⟩
theorem push_kn {ok : Nat → Prop} {c0 c1 c2 c3 s : Int} {A : Option Addr} {cc : Nat} {q : List Ch} {lat : Bool} {tok at_ : Int} {sn : Bool} {dg : Int} (x : Ch) {r0 : Int} {r1 : List Ch} {r2 : Bool} {r3 r4 : Int} {r5 : Bool} {r6 : Int} {w : World}
  (hq : q.length ≤ 1000) (h : pushK c0 s q lat tok at_ sn dg x = (r0, r1, r2, r3, r4, r5, r6)) (g : (V kCh (.slice A q.length cc) q).P w ok) :
  Calls Try.prog 19 #[.agg #[.int .i64 c0, .int .i64 c1, .int .i64 c2, .int .i64 c3], .agg #[.int .i64 s, .slice A q.length cc, .bool lat, .int .i64 tok, .int .i64 at_, .bool sn, .int .i64 dg], .agg #[.string x.f0, .bool x.f1, .int .i64 x.f2.f0, .int .i64 x.f2.f1, .int .i64 x.f2.f2, .string x.f2.f3]] w
   fun e w' => ∃ (A' : Option Addr) (c' : Nat), e = .returned (.agg #[.int .i64 r0, .slice A' r1.length c', .bool r2, .int .i64 r3, .int .i64 r4, .bool r5, .int .i64 r6]) ∧ (V kCh (.slice A' r1.length c') r1).P w' (fun k => ok k ∨ w.heap.size ≤ k) ∧ Below w.heap.size w w' :=
 push_go ok c0 c1 c2 c3 s A cc q lat tok at_ sn dg x r0 r1 r2 r3 r4 r5 r6 w w (Kn.enter ok w (by simpa using g)) hq h
/-- What any link tells next: of a link, a view or a tick that may not be, nothing. -/
def emitK (c0 c1 c2 c3 s : Int) (q : List Ch) (lat : Bool) (tok at_ : Int) (sn : Bool) (dg : Int) (t : List Se) (now : Int) : Option St :=
 if mayK c0 c1 c2 c3 s q lat tok at_ sn dg = true ∧ mayT t = true ∧ 0 ≤ now ∧ now ≤ 1099511627776 then emitP c0 c1 c2 c3 now t 50 ⟨s, q, sn, tok, at_, dg, []⟩ else some ⟨s, q, sn, tok, at_, dg, []⟩
theorem emitK_all (c0 c1 c2 c3 s : Int) (q : List Ch) (lat : Bool) (tok at_ : Int) (sn : Bool) (dg : Int) (t : List Se) (now : Int) (hq : q.length ≤ 40) :
  ∃ R, emitK c0 c1 c2 c3 s q lat tok at_ sn dg t now = some R ∧ R.fs.length ≤ q.length + 2 ∧ R.q.length ≤ q.length ∧ ∀ f ∈ R.fs, f.f6 = t ∨ f.f6 = [] := by
 unfold emitK
 by_cases h : mayK c0 c1 c2 c3 s q lat tok at_ sn dg = true ∧ mayT t = true ∧ 0 ≤ now ∧ now ≤ 1099511627776
 ·rw [if_pos h]
  have hm := (mayK_iff _ _ _ _ _ _ _ _ _ _ _).1 h.1
  have h1 := hm.1
  unfold XV17.OneP at h1
  have hr : XV17.rounds c3 now ⟨s, q, sn, tok, at_, dg, []⟩ ≤ q.length + 2 := by
   unfold XV17.rounds
   dsimp only
   split <;> split <;> omega
  obtain ⟨R, hR, hA, hB, hC⟩ := XV17.emit_all c0 c1 c2 c3 now t (by omega) 50 ⟨s, q, sn, tok, at_, dg, []⟩ (by omega)
  refine ⟨R, hR, ?_, hB, hC (fun f hf => by cases hf)⟩
  simp only [List.length_nil] at hA
  omega
 ·rw [if_neg h]
  exact ⟨_, rfl, Nat.zero_le _, Nat.le_refl _, fun f hf => by cases hf⟩
theorem emit_kn {ok : Nat → Prop} {c0 c1 c2 c3 s : Int} {A : Option Addr} {cc : Nat} {q : List Ch} {lat : Bool} {tok at_ : Int} {sn : Bool} {dg : Int} {B : Option Addr} {mc : Nat} {t : List Se} {now : Int} {w : World} {R : St}
  (hq : q.length ≤ 40) (hqs : ∀ x ∈ q, x.f0.size ≤ 9223372036854775807) (ht : t.length ≤ 40) (hts : ∀ x ∈ t, x.f0.size ≤ 9223372036854775807)
  (hR : emitK c0 c1 c2 c3 s q lat tok at_ sn dg t now = some R) (g1 : (V kCh (.slice A q.length cc) q).P w ok) (g2 : (V kSe (.slice B t.length mc) t).P w ok) :
  Calls Try.prog 24 #[.agg #[.int .i64 c0, .int .i64 c1, .int .i64 c2, .int .i64 c3], .agg #[.int .i64 s, .slice A q.length cc, .bool lat, .int .i64 tok, .int .i64 at_, .bool sn, .int .i64 dg], .slice B t.length mc, .int .i64 now] w
   fun e w' => ∃ (A' : Option Addr) (c' : Nat) (A2 : Option Addr) (c2' : Nat), e = .returned (.tuple #[.agg #[.int .i64 R.s, .slice A' R.q.length c', .bool lat, .int .i64 R.tok, .int .i64 R.at_, .bool R.sn, .int .i64 R.dg], .slice A2 R.fs.length c2']) ∧ (V kCh (.slice A' R.q.length c') R.q).P w' (fun k => ok k ∨ w.heap.size ≤ k) ∧ (V kFr (.slice A2 R.fs.length c2') R.fs).P w' (fun k => ok k ∨ w.heap.size ≤ k) ∧ Below w.heap.size w w' := by
 unfold emitK at hR
 have e1 := linkMayK 200 c0 c1 c2 c3 s q lat tok at_ sn dg hq hqs (by omega)
 have e2 := digMayT_b 200 t (by omega) hts (by omega)
 have e3 := ltime_b now
 by_cases h : mayK c0 c1 c2 c3 s q lat tok at_ sn dg = true ∧ mayT t = true ∧ 0 ≤ now ∧ now ≤ 1099511627776
 ·rw [if_pos h] at hR
  have hm := (mayK_iff _ _ _ _ _ _ _ _ _ _ _).1 h.1
  obtain ⟨h1, h2, h3, h4, h5, h6⟩ := hm
  subst h4
  rw [h.1] at e1
  rw [h.2.1] at e2
  rw [decide_eq_true h.2.2] at e3
  refine (emit_yes ok 200 200 50 c0 c1 c2 c3 s A cc q tok at_ sn dg B mc t now w g1 g2 e1 e2 e3 h2.1 h5.1 h5.2 h.2.2.1 h.2.2.2 ht hts (by omega) R hR).mono ?_
  rintro e w' ⟨A', c', vo, rfl, hV, hF, hb⟩
  obtain ⟨A2, c2', rfl⟩ := Kd.V_slice hF
  exact ⟨A', c', A2, c2', rfl, hV, V_any hF, hb⟩
 ·rw [if_neg h] at hR
  obtain rfl := Option.some.inj hR
  have r1 := Kd.V_reads' (e := 0) (base := 0) g1
  have r2 := Kd.V_reads' (e := 0) (base := 0) g2
  refine (emit_no 200 200 c0 c1 c2 c3 s A cc q lat tok at_ sn dg B mc t now _ _ _ w r1.2.2 r1.2.1 r2.2.2 r2.2.1 e1 e2 e3 ?_).mono ?_
  ·by_cases a : mayK c0 c1 c2 c3 s q lat tok at_ sn dg = true
   ·by_cases b : mayT t = true
    ·rw [decide_eq_false (fun c => h ⟨a, b, c⟩), Bool.and_false]
    ·rw [Bool.eq_false_iff.mpr b]; simp
   ·rw [Bool.eq_false_iff.mpr a]; simp
  ·rintro e w' ⟨rfl, hb⟩
   exact ⟨A, cc, none, 0, rfl, (V kCh _ q).mono ((V kCh _ q).step g1 (fun k _ hk => hb.block k hk)) (fun k hk => .inl hk), V_any (Kd.V_nil kFr 0 w' 0 _), hb⟩
end Go.Proofs.Ytmigglldahkngaa.XTell
end

section
/- More of Kn: a box that was made on the way. -/
namespace Go.Proofs.Ytmigglldahkngaa.XSt
set_option linter.unusedVariables false
set_option linter.unusedSimpArgs false
open Go.RowKit Go.Proofs.YtmigglldahkngaaW.PrintWords Go.Proofs.YtmigglldahkngaaW.PrintLast Go.Proofs.YtmigglldahkngaaW.PrintMore Go.Proofs.Ytmigglldahkngaa.XMem
variable {ok : Nat → Prop} {w0 w w1 : World} {L : List (Nat × Obj)} {u : Value} {U : Ft} {I : List Ft}
/-- A box that was made on the way. -/
theorem Kn.newAt (S : Kn ok w0 L u U I w) (hb : Below w.heap.size w w1) {p : Nat} {o : Obj} (hp : w.heap.size ≤ p) (ho : w1.heap[p]? = some o) : Kn ok w0 ((p, o) :: L) u U I w1 := by
 have S1 := S.below hb
 refine ⟨S1.bel, ?_, ?_, ?_, ?_, ?_, ?_⟩
 ·intro x hx
  rcases List.mem_cons.1 hx with rfl | hx
  ·exact ho
  ·exact S1.mem x hx
 ·intro x hx
  rcases List.mem_cons.1 hx with rfl | hx
  ·exact Nat.le_trans S.bel.size hp
  ·exact S.base x hx
 ·refine List.pairwise_cons.2 ⟨fun x hx => ?_, S.nod⟩
  have := S.lt hx
  show p ≠ x.1
  omega
 ·refine U.mono (U.step (U.bound S.own) (fun k _ hk => hb.block k hk)) (fun k hk => ⟨hk.1.1, fun x hx => ?_⟩)
  rcases List.mem_cons.1 hx with rfl | hx
  ·have := hk.2
   show k ≠ p
   omega
  ·exact hk.1.2 x hx
 ·intro k hk
  obtain ⟨h1, h2, h3⟩ := S.oob k hk
  refine ⟨fun x hx => ?_, Nat.lt_of_lt_of_le h2 hb.size, h3⟩
  rcases List.mem_cons.1 hx with rfl | hx
  ·show k ≠ p
   omega
  ·exact h1 x hx
 ·intro f hf
  refine f.mono (f.step (f.bound (S.ims f hf)) (fun k _ hk => hb.block k hk)) (fun k hk => ⟨⟨hk.1.1.1, fun x hx => ?_⟩, hk.1.2⟩)
  rcases List.mem_cons.1 hx with rfl | hx
  ·have := hk.2
   show k ≠ p
   omega
  ·exact hk.1.1.2 x hx
theorem Ft.below {f : Ft} (h : f.P w ok) (hb : Below w.heap.size w w1) : f.P w1 ok := f.step h (fun k _ hk => hb.block k hk)
theorem Ft.all {f : Ft} (h : f.P w ok) : f.P w (fun _ => True) := f.mono h (fun _ _ => trivial)
end Go.Proofs.Ytmigglldahkngaa.XSt
end

section
/- law18's live, walked. -/
namespace Go.Proofs.Ytmigglldahkngaa.XTell
open Go.RowKit Go.Proofs.YtmigglldahkngaaW.PrintWords Go.Proofs.YtmigglldahkngaaW.PrintLast Go.Proofs.YtmigglldahkngaaW.PrintMore Go.Proofs.Ytmigglldahkngaa.PA Go.Proofs.Ytmigglldahkngaa.XMem Go.Proofs.Ytmigglldahkngaa.XSum Go.Proofs.Ytmigglldahkngaa.XSt Go.Proofs.Ytmigglldahkngaa.XKn Go.Proofs.Ytmigglldahkngaa.XQuiet
open Go.Proofs.Ytmigglldahkngaa.XV17 (mayT mayK pushK newK newK_b quiet_b linkMayK same18)
set_option linter.unusedVariables false
set_option linter.unusedSimpArgs false
set_option maxRecDepth 100000
abbrev sa : ByteArray := ⟨#[97]⟩
abbrev sb : ByteArray := ⟨#[98]⟩
abbrev sc : ByteArray := ⟨#[99]⟩
abbrev s0 : ByteArray := ⟨#[]⟩
abbrev chg (s : ByteArray) : Ch := ⟨s, false, ⟨0, 0, 0, s0⟩⟩
abbrev tab : List Se := [⟨sa, ⟨4, 0, 0, s0⟩⟩]
abbrev fr1 : Fr := ⟨3, 0, false, s0, ⟨0, 0, 0, s0⟩, 0, tab⟩
abbrev fr2 : Fr := ⟨1, 1, false, sa, ⟨0, 0, 0, s0⟩, 0, []⟩
abbrev fr3 : Fr := ⟨1, 2, false, sb, ⟨0, 0, 0, s0⟩, 0, []⟩
abbrev fr4 : Fr := ⟨2, 3, false, s0, ⟨0, 0, 0, s0⟩, sumB [], []⟩
theorem kCh_heap : Kd.Heap kCh := ⟨fun _ hK => by obtain rfl := k34_open hK; exact k34_mk _ _⟩
theorem kSe_heap : Kd.Heap kSe := ⟨fun _ hK => by obtain rfl := k72_open hK; exact k72_mk _ _⟩
theorem farL {w : World} {p t n c : Nat} {A : Option Addr} {a b d e : Int} {x y : Bool} {v : Value} {l : List Ch} (h : (V kCh v l).P w (fun _ => True)) (hp : w.heap[p]? = some (.cells #[.int .i64 a, .slice A n c, .bool x, .int .i64 b, .int .i64 d, .bool y, .int .i64 e] t (0, 0))) (i : Nat) (u : Value) : (V kCh v l).P (w.setCell ⟨p, i, none⟩ u) (fun _ => True) := by
 obtain ⟨B, d, rfl, hc, hC⟩ := Im.slice h
 have hC' : kCh.C (w.setCell ⟨p, i, none⟩ u) B l.length l := by
  refine Kd.C_foot_ne (fun {_ _ _ _} hK => by obtain rfl := k34_open hK; exact k34_mk _ _) hC (fun ad ha hn hg => ?_) _ ((KeepBut.refl w p none).set_ i u)
  obtain ⟨ad', he, h0, _⟩ := at_T34 hC 0 (by omega) (by omega)
  rw [ha] at he
  injection he with he
  subst he
  obtain ⟨bl, of, fr⟩ := ad
  simp only at hg
  subst hg
  rw [show Int.toNat 0 * 6 = 0 from rfl] at h0
  cases fr with
  | some q => simp [Addr.add, World.cell?, hp] at h0
  | none =>
   have h1 := blk_cell hp of
   simp only [Addr.add, if_true] at h0
   rw [h1] at h0
   rcases of with _ | _ | _ | _ | _ | _ | _ | of <;> simp at h0
 exact ⟨B, d, rfl, hc, Kd.F_mono (Kd.C_F kCh_heap hC') (fun _ _ => trivial)⟩
theorem push_n {ok : Nat → Prop} {c0 c1 c2 c3 s : Int} {A : Option Addr} {cc : Nat} {q : List Ch} {lat : Bool} {tok at_ : Int} {sn : Bool} {dg : Int} (n n' : Nat) (x : Ch) (y0 : ByteArray) (y1 : Bool) (y2 y3 y4 : Int) (y5 : ByteArray) {r0 : Int} {r1 : List Ch} {r2 : Bool} {r3 r4 : Int} {r5 : Bool} {r6 : Int} {w : World}
  (h : pushK c0 s q lat tok at_ sn dg x = (r0, r1, r2, r3, r4, r5, r6)) (g : (V kCh (.slice A n cc) q).P w ok) (hx : x = ⟨y0, y1, ⟨y2, y3, y4, y5⟩⟩) (hn : q.length = n) (hn' : r1.length = n') (hq : q.length ≤ 1000) :
  Calls Try.prog 19 #[.agg #[.int .i64 c0, .int .i64 c1, .int .i64 c2, .int .i64 c3], .agg #[.int .i64 s, .slice A n cc, .bool lat, .int .i64 tok, .int .i64 at_, .bool sn, .int .i64 dg], .agg #[.string y0, .bool y1, .int .i64 y2, .int .i64 y3, .int .i64 y4, .string y5]] w
   fun e w' => ∃ (A' : Option Addr) (c' : Nat), e = .returned (.agg #[.int .i64 r0, .slice A' n' c', .bool r2, .int .i64 r3, .int .i64 r4, .bool r5, .int .i64 r6]) ∧ (V kCh (.slice A' n' c') r1).P w' (fun k => ok k ∨ w.heap.size ≤ k) ∧ Below w.heap.size w w' := by
 subst hn
 subst hn'
 subst hx
 exact push_kn (⟨y0, y1, ⟨y2, y3, y4, y5⟩⟩ : Ch) hq h g
theorem set7 {w g : World} {p : Nat} {v : Value} {l : List Ch} {s t a d : Int} {A : Option Addr} {n c : Nat} {b y : Bool} (T : w.heap[p]? = some (.cells #[.int .i64 0, .slice none 0 0, .bool false, .int .i64 0, .int .i64 0, .bool false, .int .i64 0] TLk (0, 0))) (h : (V kCh v l).P w (fun _ => True)) (hb : Below g.heap.size g w) (hg : g.heap.size ≤ p) :
  (((((((w.setCell ⟨p, 0, none⟩ (.int .i64 s)).setCell ⟨p, 1, none⟩ (.slice A n c)).setCell ⟨p, 2, none⟩ (.bool b)).setCell ⟨p, 3, none⟩ (.int .i64 t)).setCell ⟨p, 4, none⟩ (.int .i64 a)).setCell ⟨p, 5, none⟩ (.bool y)).setCell ⟨p, 6, none⟩ (.int .i64 d)).heap[p]? = some (.cells #[.int .i64 s, .slice A n c, .bool b, .int .i64 t, .int .i64 a, .bool y, .int .i64 d] TLk (0, 0)) ∧ (V kCh v l).P (((((((w.setCell ⟨p, 0, none⟩ (.int .i64 s)).setCell ⟨p, 1, none⟩ (.slice A n c)).setCell ⟨p, 2, none⟩ (.bool b)).setCell ⟨p, 3, none⟩ (.int .i64 t)).setCell ⟨p, 4, none⟩ (.int .i64 a)).setCell ⟨p, 5, none⟩ (.bool y)).setCell ⟨p, 6, none⟩ (.int .i64 d)) (fun _ => True) ∧ Below g.heap.size g (((((((w.setCell ⟨p, 0, none⟩ (.int .i64 s)).setCell ⟨p, 1, none⟩ (.slice A n c)).setCell ⟨p, 2, none⟩ (.bool b)).setCell ⟨p, 3, none⟩ (.int .i64 t)).setCell ⟨p, 4, none⟩ (.int .i64 a)).setCell ⟨p, 5, none⟩ (.bool y)).setCell ⟨p, 6, none⟩ (.int .i64 d)) := by
 have b0 : (w.setCell ⟨p, 0, none⟩ (.int .i64 s)).heap[p]? = some (.cells #[.int .i64 s, .slice none 0 0, .bool false, .int .i64 0, .int .i64 0, .bool false, .int .i64 0] TLk (0, 0)) := blk_set T 0 _
 have f0 : (V kCh v l).P (w.setCell ⟨p, 0, none⟩ (.int .i64 s)) (fun _ => True) := farL h T 0 _
 have n0 : Below g.heap.size g (w.setCell ⟨p, 0, none⟩ (.int .i64 s)) := below_set hb hg
 have b1 : ((w.setCell ⟨p, 0, none⟩ (.int .i64 s)).setCell ⟨p, 1, none⟩ (.slice A n c)).heap[p]? = some (.cells #[.int .i64 s, .slice A n c, .bool false, .int .i64 0, .int .i64 0, .bool false, .int .i64 0] TLk (0, 0)) := blk_set b0 1 _
 have f1 : (V kCh v l).P ((w.setCell ⟨p, 0, none⟩ (.int .i64 s)).setCell ⟨p, 1, none⟩ (.slice A n c)) (fun _ => True) := farL f0 b0 1 _
 have n1 : Below g.heap.size g ((w.setCell ⟨p, 0, none⟩ (.int .i64 s)).setCell ⟨p, 1, none⟩ (.slice A n c)) := below_set n0 hg
 have b2 : (((w.setCell ⟨p, 0, none⟩ (.int .i64 s)).setCell ⟨p, 1, none⟩ (.slice A n c)).setCell ⟨p, 2, none⟩ (.bool b)).heap[p]? = some (.cells #[.int .i64 s, .slice A n c, .bool b, .int .i64 0, .int .i64 0, .bool false, .int .i64 0] TLk (0, 0)) := blk_set b1 2 _
 have f2 : (V kCh v l).P (((w.setCell ⟨p, 0, none⟩ (.int .i64 s)).setCell ⟨p, 1, none⟩ (.slice A n c)).setCell ⟨p, 2, none⟩ (.bool b)) (fun _ => True) := farL f1 b1 2 _
 have n2 : Below g.heap.size g (((w.setCell ⟨p, 0, none⟩ (.int .i64 s)).setCell ⟨p, 1, none⟩ (.slice A n c)).setCell ⟨p, 2, none⟩ (.bool b)) := below_set n1 hg
 have b3 : ((((w.setCell ⟨p, 0, none⟩ (.int .i64 s)).setCell ⟨p, 1, none⟩ (.slice A n c)).setCell ⟨p, 2, none⟩ (.bool b)).setCell ⟨p, 3, none⟩ (.int .i64 t)).heap[p]? = some (.cells #[.int .i64 s, .slice A n c, .bool b, .int .i64 t, .int .i64 0, .bool false, .int .i64 0] TLk (0, 0)) := blk_set b2 3 _
 have f3 : (V kCh v l).P ((((w.setCell ⟨p, 0, none⟩ (.int .i64 s)).setCell ⟨p, 1, none⟩ (.slice A n c)).setCell ⟨p, 2, none⟩ (.bool b)).setCell ⟨p, 3, none⟩ (.int .i64 t)) (fun _ => True) := farL f2 b2 3 _
 have n3 : Below g.heap.size g ((((w.setCell ⟨p, 0, none⟩ (.int .i64 s)).setCell ⟨p, 1, none⟩ (.slice A n c)).setCell ⟨p, 2, none⟩ (.bool b)).setCell ⟨p, 3, none⟩ (.int .i64 t)) := below_set n2 hg
 have b4 : (((((w.setCell ⟨p, 0, none⟩ (.int .i64 s)).setCell ⟨p, 1, none⟩ (.slice A n c)).setCell ⟨p, 2, none⟩ (.bool b)).setCell ⟨p, 3, none⟩ (.int .i64 t)).setCell ⟨p, 4, none⟩ (.int .i64 a)).heap[p]? = some (.cells #[.int .i64 s, .slice A n c, .bool b, .int .i64 t, .int .i64 a, .bool false, .int .i64 0] TLk (0, 0)) := blk_set b3 4 _
 have f4 : (V kCh v l).P (((((w.setCell ⟨p, 0, none⟩ (.int .i64 s)).setCell ⟨p, 1, none⟩ (.slice A n c)).setCell ⟨p, 2, none⟩ (.bool b)).setCell ⟨p, 3, none⟩ (.int .i64 t)).setCell ⟨p, 4, none⟩ (.int .i64 a)) (fun _ => True) := farL f3 b3 4 _
 have n4 : Below g.heap.size g (((((w.setCell ⟨p, 0, none⟩ (.int .i64 s)).setCell ⟨p, 1, none⟩ (.slice A n c)).setCell ⟨p, 2, none⟩ (.bool b)).setCell ⟨p, 3, none⟩ (.int .i64 t)).setCell ⟨p, 4, none⟩ (.int .i64 a)) := below_set n3 hg
 have b5 : ((((((w.setCell ⟨p, 0, none⟩ (.int .i64 s)).setCell ⟨p, 1, none⟩ (.slice A n c)).setCell ⟨p, 2, none⟩ (.bool b)).setCell ⟨p, 3, none⟩ (.int .i64 t)).setCell ⟨p, 4, none⟩ (.int .i64 a)).setCell ⟨p, 5, none⟩ (.bool y)).heap[p]? = some (.cells #[.int .i64 s, .slice A n c, .bool b, .int .i64 t, .int .i64 a, .bool y, .int .i64 0] TLk (0, 0)) := blk_set b4 5 _
 have f5 : (V kCh v l).P ((((((w.setCell ⟨p, 0, none⟩ (.int .i64 s)).setCell ⟨p, 1, none⟩ (.slice A n c)).setCell ⟨p, 2, none⟩ (.bool b)).setCell ⟨p, 3, none⟩ (.int .i64 t)).setCell ⟨p, 4, none⟩ (.int .i64 a)).setCell ⟨p, 5, none⟩ (.bool y)) (fun _ => True) := farL f4 b4 5 _
 have n5 : Below g.heap.size g ((((((w.setCell ⟨p, 0, none⟩ (.int .i64 s)).setCell ⟨p, 1, none⟩ (.slice A n c)).setCell ⟨p, 2, none⟩ (.bool b)).setCell ⟨p, 3, none⟩ (.int .i64 t)).setCell ⟨p, 4, none⟩ (.int .i64 a)).setCell ⟨p, 5, none⟩ (.bool y)) := below_set n4 hg
 have b6 : (((((((w.setCell ⟨p, 0, none⟩ (.int .i64 s)).setCell ⟨p, 1, none⟩ (.slice A n c)).setCell ⟨p, 2, none⟩ (.bool b)).setCell ⟨p, 3, none⟩ (.int .i64 t)).setCell ⟨p, 4, none⟩ (.int .i64 a)).setCell ⟨p, 5, none⟩ (.bool y)).setCell ⟨p, 6, none⟩ (.int .i64 d)).heap[p]? = some (.cells #[.int .i64 s, .slice A n c, .bool b, .int .i64 t, .int .i64 a, .bool y, .int .i64 d] TLk (0, 0)) := blk_set b5 6 _
 have f6 : (V kCh v l).P (((((((w.setCell ⟨p, 0, none⟩ (.int .i64 s)).setCell ⟨p, 1, none⟩ (.slice A n c)).setCell ⟨p, 2, none⟩ (.bool b)).setCell ⟨p, 3, none⟩ (.int .i64 t)).setCell ⟨p, 4, none⟩ (.int .i64 a)).setCell ⟨p, 5, none⟩ (.bool y)).setCell ⟨p, 6, none⟩ (.int .i64 d)) (fun _ => True) := farL f5 b5 6 _
 have n6 : Below g.heap.size g (((((((w.setCell ⟨p, 0, none⟩ (.int .i64 s)).setCell ⟨p, 1, none⟩ (.slice A n c)).setCell ⟨p, 2, none⟩ (.bool b)).setCell ⟨p, 3, none⟩ (.int .i64 t)).setCell ⟨p, 4, none⟩ (.int .i64 a)).setCell ⟨p, 5, none⟩ (.bool y)).setCell ⟨p, 6, none⟩ (.int .i64 d)) := below_set n5 hg
 exact ⟨b6, f6, n6⟩
theorem add10 (a : Addr) : a.add 10 = ⟨a.block, a.off + 10, none⟩ := by simp [Addr.add]
theorem add0 (a : Addr) : a.add 0 = a := by simp [Addr.add]
theorem live_x : link_May.f 200 2 2 1 5 4 [] false 0 16 false 16 = some true := by kernel_rfl
theorem live_y : link_May.f 200 2 2 1 5 (-1) [] false 0 0 false 0 = some false := by kernel_rfl
theorem live_m : emitK 2 2 1 5 0 [] false 2 10 true 10 tab 10 = some ⟨1, [], false, 1, 10, 10, [fr1]⟩ := by kernel_rfl
theorem live_o : emitK 2 2 1 5 1 [chg sa, chg sb] false 1 10 false 10 [] 10 = some ⟨2, [chg sb], false, 0, 10, 10, [fr2]⟩ := by kernel_rfl
theorem live_p : emitK 2 2 1 5 2 [chg sb] false 0 10 false 10 [] 10 = some ⟨2, [chg sb], false, 0, 10, 10, []⟩ := by kernel_rfl
theorem live_q : emitK 2 2 1 5 2 [chg sb] false 0 10 false 10 [] 16 = some ⟨4, [], false, 0, 16, 16, [fr3, fr4]⟩ := by kernel_rfl
theorem live_n1 : pushK 2 1 [] false 1 10 false 10 (chg sa) = (1, [chg sa], false, 1, 10, false, 10) := by kernel_rfl
theorem live_n2 : pushK 2 1 [chg sa] false 1 10 false 10 (chg sb) = (1, [chg sa, chg sb], false, 1, 10, false, 10) := by kernel_rfl
theorem live_r : pushK 2 1 [chg sa, chg sb] false 1 10 false 10 (chg sc) = (1, [], false, 1, 10, true, 10) := by kernel_rfl
set_option maxHeartbeats 8000000 in
theorem live_go (ok : Nat → Prop) (w0 w : World) (S : Kn ok w0 [] nil tt [] w) :
  Calls Try.prog 11 #[] w fun e w' => e = .returned (.bool true) ∧ Below w0.heap.size w0 w' := by
 go_enter Try.func11, Try.ntmps11
 go_upto_region 2 with (fail)
 generalize hg : World.alloc _ _ = w1
 replace S := S.new hg
 clear hg
 generalize w.heap.size = p1 at S ⊢
 replace S : Kn ok w0 [(p1, .cells #[.int .i64 2, .int .i64 2, .int .i64 1, .int .i64 5] TCf (0, 0))] nil tt [] w1 := S
 go_upto_region 3 with (fail)
 generalize hg : World.alloc _ _ = w2
 replace S := S.new hg
 clear hg
 generalize w1.heap.size = p2 at S ⊢
 replace S : Kn ok w0 [(p2, .cells #[.int .i64 4, .int .i64 0, .int .i64 0, .string s0] 32 (0, 0)), (p1, .cells #[.int .i64 2, .int .i64 2, .int .i64 1, .int .i64 5] TCf (0, 0))] nil tt [] w2 := S
 have v_0 : w2.cell? ⟨p2, 0, none⟩ = some (.int .i64 4) := S.cell 0 0 rfl rfl
 have v_1 : w2.cell? ⟨p2, 1, none⟩ = some (.int .i64 0) := S.cell 0 1 rfl rfl
 have v_2 : w2.cell? ⟨p2, 2, none⟩ = some (.int .i64 0) := S.cell 0 2 rfl rfl
 have v_3 : w2.cell? ⟨p2, 3, none⟩ = some (.string s0) := S.cell 0 3 rfl rfl
 go_upto_region 4 with (fail)
 generalize hg : World.alloc _ _ = w3
 have ht : (V kSe (.slice (some ⟨w2.heap.size, 0, none⟩) 1 1) tab).P w3 (fun _ => True) := by
  have := Im.lit kSe hg (xs := tab) (Reps.c5 (k72_mkM _ _ _ (⟨sa, ⟨4, 0, 0, s0⟩⟩ : Se)) (Reps.none _ _)) (by simp)
  exact this
 replace S := S.new hg
 clear hg
 generalize w2.heap.size = p3 at S ht ⊢
 clear v_0 v_1 v_2 v_3
 replace S : Kn ok w0 [(p3, .cells #[.string sa, .int .i64 4, .int .i64 0, .int .i64 0, .string s0] 72 (0, 0)), (p2, .cells #[.int .i64 4, .int .i64 0, .int .i64 0, .string s0] 32 (0, 0)), (p1, .cells #[.int .i64 2, .int .i64 2, .int .i64 1, .int .i64 5] TCf (0, 0))] nil tt [] w3 := S
 have c_0 : w3.cell? ⟨p1, 0, none⟩ = some (.int .i64 2) := S.cell 2 0 rfl rfl
 have c_1 : w3.cell? ⟨p1, 1, none⟩ = some (.int .i64 2) := S.cell 2 1 rfl rfl
 have c_2 : w3.cell? ⟨p1, 2, none⟩ = some (.int .i64 1) := S.cell 2 2 rfl rfl
 have c_3 : w3.cell? ⟨p1, 3, none⟩ = some (.int .i64 5) := S.cell 2 3 rfl rfl
 go_wp2_with fail
 refine (link_New.kn (newK_b 2 2 1 5 10)).mono ?_
 rintro e w4 ⟨A4, e4, rfl, hV, hb⟩
 replace S := S.below hb
 replace ht := Ft.below ht hb
 have hl := Ft.all hV
 clear hV
 clear c_0 c_1 c_2 c_3 hb
 skip
 go_upto_region 5 with (fail)
 generalize hg : World.alloc _ _ = w5
 replace S := S.new hg
 have hbx : Below w4.heap.size w4 w5 := hg ▸ (by repeat (first | exact Below.refl _ _ | apply below_alloc))
 replace ht := Ft.below ht hbx
 replace hl := Ft.below hl hbx
 clear hbx
 clear hg
 generalize w4.heap.size = p4 at S ⊢
 replace S : Kn ok w0 [(p4, .cells #[.int .i64 0, .slice A4 0 e4, .bool false, .int .i64 2, .int .i64 10, .bool true, .int .i64 10] TLk (0, 0)), (p3, .cells #[.string sa, .int .i64 4, .int .i64 0, .int .i64 0, .string s0] 72 (0, 0)), (p2, .cells #[.int .i64 4, .int .i64 0, .int .i64 0, .string s0] 32 (0, 0)), (p1, .cells #[.int .i64 2, .int .i64 2, .int .i64 1, .int .i64 5] TCf (0, 0))] nil tt [] w5 := S
 go_wp2_with fail
 refine (link_New.kn (newK_b 0 0 0 0 10)).mono ?_
 rintro e w6 ⟨A6, e6, rfl, hV, hb⟩
 replace S := S.below hb
 replace ht := Ft.below ht hb
 replace hl := Ft.below hl hb
 clear hb hV
 go_upto_region 6 with (fail)
 generalize hg : World.alloc _ _ = w7
 replace S := S.new hg
 have hbx : Below w6.heap.size w6 w7 := hg ▸ (by repeat (first | exact Below.refl _ _ | apply below_alloc))
 replace ht := Ft.below ht hbx
 replace hl := Ft.below hl hbx
 clear hbx
 clear hg
 generalize w6.heap.size = p6 at S ⊢
 replace S : Kn ok w0 [(p6, .cells #[.int .i64 0, .slice A6 0 e6, .bool false, .int .i64 0, .int .i64 0, .bool false, .int .i64 0] TLk (0, 0)), (p4, .cells #[.int .i64 0, .slice A4 0 e4, .bool false, .int .i64 2, .int .i64 10, .bool true, .int .i64 10] TLk (0, 0)), (p3, .cells #[.string sa, .int .i64 4, .int .i64 0, .int .i64 0, .string s0] 72 (0, 0)), (p2, .cells #[.int .i64 4, .int .i64 0, .int .i64 0, .string s0] 32 (0, 0)), (p1, .cells #[.int .i64 2, .int .i64 2, .int .i64 1, .int .i64 5] TCf (0, 0))] nil tt [] w7 := S
 have c_0 : w7.cell? ⟨p1, 0, none⟩ = some (.int .i64 2) := S.cell 4 0 rfl rfl
 have c_1 : w7.cell? ⟨p1, 1, none⟩ = some (.int .i64 2) := S.cell 4 1 rfl rfl
 have c_2 : w7.cell? ⟨p1, 2, none⟩ = some (.int .i64 1) := S.cell 4 2 rfl rfl
 have c_3 : w7.cell? ⟨p1, 3, none⟩ = some (.int .i64 5) := S.cell 4 3 rfl rfl
 have l_0 : w7.cell? ⟨p4, 0, none⟩ = some (.int .i64 0) := S.cell 1 0 rfl rfl
 have l_1 : w7.cell? ⟨p4, 1, none⟩ = some (.slice A4 0 e4) := S.cell 1 1 rfl rfl
 have l_2 : w7.cell? ⟨p4, 2, none⟩ = some (.bool false) := S.cell 1 2 rfl rfl
 have l_3 : w7.cell? ⟨p4, 3, none⟩ = some (.int .i64 2) := S.cell 1 3 rfl rfl
 have l_4 : w7.cell? ⟨p4, 4, none⟩ = some (.int .i64 10) := S.cell 1 4 rfl rfl
 have l_5 : w7.cell? ⟨p4, 5, none⟩ = some (.bool true) := S.cell 1 5 rfl rfl
 have l_6 : w7.cell? ⟨p4, 6, none⟩ = some (.int .i64 10) := S.cell 1 6 rfl rfl
 go_wp2_with fail
 refine (emit_kn (ok := fun _ => True) (by decide) (by decide) (by decide) (by decide) live_m hl ht).mono ?_
 rintro e w8 ⟨A8, e8, B8, d8, rfl, hV, hF, hb⟩
 replace S := S.below hb
 replace ht := Ft.below ht hb
 replace hl := Ft.below hl hb
 have hm := Ft.all hV
 clear hV
 have fm := Ft.all hF
 clear hF
 clear c_0 c_1 c_2 c_3 l_0 l_1 l_2 l_3 l_4 l_5 l_6 hb
 go_upto_region 7 with (fail)
 generalize hg : World.alloc _ _ = w9
 replace S := S.new hg
 have hbx : Below w8.heap.size w8 w9 := hg ▸ (by repeat (first | exact Below.refl _ _ | apply below_alloc))
 replace ht := Ft.below ht hbx
 replace hl := Ft.below hl hbx
 replace hm := Ft.below hm hbx
 replace fm := Ft.below fm hbx
 clear hbx
 clear hg
 generalize w8.heap.size = p8 at S ⊢
 replace S : Kn ok w0 [(p8, .cells #[.int .i64 1, .slice A8 0 e8, .bool false, .int .i64 1, .int .i64 10, .bool false, .int .i64 10] TLk (0, 0)), (p6, .cells #[.int .i64 0, .slice A6 0 e6, .bool false, .int .i64 0, .int .i64 0, .bool false, .int .i64 0] TLk (0, 0)), (p4, .cells #[.int .i64 0, .slice A4 0 e4, .bool false, .int .i64 2, .int .i64 10, .bool true, .int .i64 10] TLk (0, 0)), (p3, .cells #[.string sa, .int .i64 4, .int .i64 0, .int .i64 0, .string s0] 72 (0, 0)), (p2, .cells #[.int .i64 4, .int .i64 0, .int .i64 0, .string s0] 32 (0, 0)), (p1, .cells #[.int .i64 2, .int .i64 2, .int .i64 1, .int .i64 5] TCf (0, 0))] nil tt [] w9 := S
 have SS : ∀ w' : World, Below w9.heap.size w9 w' → w'.cell? ⟨p1, 0, none⟩ = some (.int .i64 2) ∧ w'.cell? ⟨p1, 1, none⟩ = some (.int .i64 2) ∧ w'.cell? ⟨p1, 2, none⟩ = some (.int .i64 1) ∧ w'.cell? ⟨p1, 3, none⟩ = some (.int .i64 5) ∧ w'.cell? ⟨p8, 0, none⟩ = some (.int .i64 1) ∧ w'.cell? ⟨p8, 1, none⟩ = some (.slice A8 0 e8) ∧ w'.cell? ⟨p8, 2, none⟩ = some (.bool false) ∧ w'.cell? ⟨p8, 3, none⟩ = some (.int .i64 1) ∧ w'.cell? ⟨p8, 4, none⟩ = some (.int .i64 10) ∧ w'.cell? ⟨p8, 5, none⟩ = some (.bool false) ∧ w'.cell? ⟨p8, 6, none⟩ = some (.int .i64 10) := fun w' hb => by
  have S := S.below hb
  exact ⟨S.cell 5 0 rfl rfl, S.cell 5 1 rfl rfl, S.cell 5 2 rfl rfl, S.cell 5 3 rfl rfl, S.cell 0 0 rfl rfl, S.cell 0 1 rfl rfl, S.cell 0 2 rfl rfl, S.cell 0 3 rfl rfl, S.cell 0 4 rfl rfl, S.cell 0 5 rfl rfl, S.cell 0 6 rfl rfl⟩
 have HS := Aside0.mk S
 clear S
 have hm0 : (V kCh (.slice A8 0 e8) []).P w9 (fun _ => True) := hm
 go_wp2_with fail
 go_cut [10] (fun s10 wx => ∃ p A c, s10 = .pointer (some ⟨p, 0, none⟩) ∧ wx.heap[p]? = some (.cells #[.int .i64 1, .slice A 2 c, .bool false, .int .i64 1, .int .i64 10, .bool false, .int .i64 10] TLk (0, 0)) ∧ (V kCh (.slice A 2 c) [chg sa, chg sb]).P wx (fun _ => True) ∧ Below w9.heap.size w9 wx ∧ w9.heap.size ≤ p)
 case first =>
  go_region_held3 (fun w' => w'.cell? ⟨p1, 0, none⟩ = some (.int .i64 2) ∧ w'.cell? ⟨p1, 1, none⟩ = some (.int .i64 2) ∧ w'.cell? ⟨p1, 2, none⟩ = some (.int .i64 1) ∧ w'.cell? ⟨p1, 3, none⟩ = some (.int .i64 5) ∧ w'.cell? ⟨p8, 0, none⟩ = some (.int .i64 1) ∧ w'.cell? ⟨p8, 1, none⟩ = some (.slice A8 0 e8) ∧ w'.cell? ⟨p8, 2, none⟩ = some (.bool false) ∧ w'.cell? ⟨p8, 3, none⟩ = some (.int .i64 1) ∧ w'.cell? ⟨p8, 4, none⟩ = some (.int .i64 10) ∧ w'.cell? ⟨p8, 5, none⟩ = some (.bool false) ∧ w'.cell? ⟨p8, 6, none⟩ = some (.int .i64 10)) (exact SS _ (by with_reducible repeat (first | assumption | apply below_alloc | apply below_drew1 | refine below_set ?_ (by first | exact hb2.size | exact hb1.size | exact Nat.le_refl _) | exact Below.refl _ _))) (first | (go_at_call 19; (with_reducible refine (push_n (ok := fun _ => True) 1 2 (chg sb) sb false 0 0 0 s0 live_n2 (Ft.below hp1 ?hq) rfl rfl rfl (by decide)).mono ?_); (case hq => with_reducible repeat (first | assumption | apply below_alloc | apply below_drew1 | exact Below.refl _ _)); rintro e x2 ⟨A2, d2, rfl, hp2, hb⟩; replace hp2 := Ft.all hp2; have hb2 := below_step (show Below w9.heap.size w9 _ from (by with_reducible repeat (first | assumption | apply below_alloc | apply below_drew1 | refine below_set ?_ (by first | exact hb2.size | exact hb1.size | exact Nat.le_refl _) | exact Below.refl _ _))) hb; (first | replace T5 := blk_below T5 hb | have T5 := blk_below (heap_alloc_new _ _) hb | have T5 := blk_below (new_drew _ _) hb | skip); (try rw [show w9.drew.heap.size = w9.heap.size from rfl] at T5); (try (have k0_ := (blk_cell T5 0).trans rfl; have z0_ := blk_frozen T5 0; have k1_ := (blk_cell T5 1).trans rfl; have z1_ := blk_frozen T5 1; have k2_ := (blk_cell T5 2).trans rfl; have z2_ := blk_frozen T5 2; have k3_ := (blk_cell T5 3).trans rfl; have z3_ := blk_frozen T5 3; have k4_ := (blk_cell T5 4).trans rfl; have z4_ := blk_frozen T5 4; have k5_ := (blk_cell T5 5).trans rfl; have z5_ := blk_frozen T5 5; have k6_ := (blk_cell T5 6).trans rfl; have z6_ := blk_frozen T5 6)); clear hb) | (go_at_call 19; (with_reducible refine (push_n (ok := fun _ => True) 0 1 (chg sa) sa false 0 0 0 s0 live_n1 (Ft.below hm0 ?hq) rfl rfl rfl (by decide)).mono ?_); (case hq => with_reducible repeat (first | assumption | apply below_alloc | apply below_drew1 | exact Below.refl _ _)); rintro e x1 ⟨A1, d1, rfl, hp1, hb⟩; replace hp1 := Ft.all hp1; have hb1 := below_step (show Below w9.heap.size w9 _ from (by with_reducible repeat (first | assumption | apply below_alloc | apply below_drew1 | refine below_set ?_ (by first | exact hb2.size | exact hb1.size | exact Nat.le_refl _) | exact Below.refl _ _))) hb; (first | replace T5 := blk_below T5 hb | have T5 := blk_below (heap_alloc_new _ _) hb | have T5 := blk_below (new_drew _ _) hb | skip); (try rw [show w9.drew.heap.size = w9.heap.size from rfl] at T5); (try (have k0_ := (blk_cell T5 0).trans rfl; have z0_ := blk_frozen T5 0; have k1_ := (blk_cell T5 1).trans rfl; have z1_ := blk_frozen T5 1; have k2_ := (blk_cell T5 2).trans rfl; have z2_ := blk_frozen T5 2; have k3_ := (blk_cell T5 3).trans rfl; have z3_ := blk_frozen T5 3; have k4_ := (blk_cell T5 4).trans rfl; have z4_ := blk_frozen T5 4; have k5_ := (blk_cell T5 5).trans rfl; have z5_ := blk_frozen T5 5; have k6_ := (blk_cell T5 6).trans rfl; have z6_ := blk_frozen T5 6)); clear hb))
  all_goals (go_wp2_with fail; go_meet; with_reducible first | exact ⟨x2.heap.size, A2, d2, rfl, heap_alloc_new _ _, Ft.below hp2 (below_alloc (Below.refl _ _) _), below_alloc hb2 _, hb2.size⟩ | exact ⟨_, A2, d2, rfl, (set7 T5 hp2 hb2 (by first | exact hb1.size | exact Nat.le_refl _)).1, (set7 T5 hp2 hb2 (by first | exact hb1.size | exact Nat.le_refl _)).2.1, (set7 T5 hp2 hb2 (by first | exact hb1.size | exact Nat.le_refl _)).2.2, (by first | exact hb1.size | exact Nat.le_refl _)⟩)
 case rest =>
  obtain ⟨p10, A10, e10, rfl, T5, hn, hb, hlt⟩ := hcut
  skip
  have S := HS.out.newAt hb hlt T5
  replace ht := Ft.below ht hb
  replace hl := Ft.below hl hb
  replace hm := Ft.below hm hb
  replace fm := Ft.below fm hb
  clear SS HS hb hlt T5 hm0
  replace S : Kn ok w0 [(p10, .cells #[.int .i64 1, .slice A10 2 e10, .bool false, .int .i64 1, .int .i64 10, .bool false, .int .i64 10] TLk (0, 0)), (p8, .cells #[.int .i64 1, .slice A8 0 e8, .bool false, .int .i64 1, .int .i64 10, .bool false, .int .i64 10] TLk (0, 0)), (p6, .cells #[.int .i64 0, .slice A6 0 e6, .bool false, .int .i64 0, .int .i64 0, .bool false, .int .i64 0] TLk (0, 0)), (p4, .cells #[.int .i64 0, .slice A4 0 e4, .bool false, .int .i64 2, .int .i64 10, .bool true, .int .i64 10] TLk (0, 0)), (p3, .cells #[.string sa, .int .i64 4, .int .i64 0, .int .i64 0, .string s0] 72 (0, 0)), (p2, .cells #[.int .i64 4, .int .i64 0, .int .i64 0, .string s0] 32 (0, 0)), (p1, .cells #[.int .i64 2, .int .i64 2, .int .i64 1, .int .i64 5] TCf (0, 0))] nil tt [] wc := S
  have hz : (V kSe (.slice none 0 0) []).P wc (fun _ => True) := V_any (Kd.V_nil kSe 0 wc 0 _)
  have c_0 : wc.cell? ⟨p1, 0, none⟩ = some (.int .i64 2) := S.cell 6 0 rfl rfl
  have c_1 : wc.cell? ⟨p1, 1, none⟩ = some (.int .i64 2) := S.cell 6 1 rfl rfl
  have c_2 : wc.cell? ⟨p1, 2, none⟩ = some (.int .i64 1) := S.cell 6 2 rfl rfl
  have c_3 : wc.cell? ⟨p1, 3, none⟩ = some (.int .i64 5) := S.cell 6 3 rfl rfl
  have n_0 : wc.cell? ⟨p10, 0, none⟩ = some (.int .i64 1) := S.cell 0 0 rfl rfl
  have n_1 : wc.cell? ⟨p10, 1, none⟩ = some (.slice A10 2 e10) := S.cell 0 1 rfl rfl
  have n_2 : wc.cell? ⟨p10, 2, none⟩ = some (.bool false) := S.cell 0 2 rfl rfl
  have n_3 : wc.cell? ⟨p10, 3, none⟩ = some (.int .i64 1) := S.cell 0 3 rfl rfl
  have n_4 : wc.cell? ⟨p10, 4, none⟩ = some (.int .i64 10) := S.cell 0 4 rfl rfl
  have n_5 : wc.cell? ⟨p10, 5, none⟩ = some (.bool false) := S.cell 0 5 rfl rfl
  have n_6 : wc.cell? ⟨p10, 6, none⟩ = some (.int .i64 10) := S.cell 0 6 rfl rfl
  go_wp2_with fail
  refine (emit_kn (ok := fun _ => True) (by decide) (by decide) (by decide) (by decide) live_o hn hz).mono ?_
  rintro e w11 ⟨A11, e11, B11, d11, rfl, hV, hF, hb⟩
  replace S := S.below hb
  replace ht := Ft.below ht hb
  replace hl := Ft.below hl hb
  replace hm := Ft.below hm hb
  replace fm := Ft.below fm hb
  replace hn := Ft.below hn hb
  replace hz := Ft.below hz hb
  have ho := Ft.all hV
  clear hV
  have fo := Ft.all hF
  clear hF
  clear c_0 c_1 c_2 c_3 n_0 n_1 n_2 n_3 n_4 n_5 n_6 hb
  go_upto_region 9 with (fail)
  generalize hg : World.alloc _ _ = w12
  replace S := S.new hg
  have hbx : Below w11.heap.size w11 w12 := hg ▸ (by repeat (first | exact Below.refl _ _ | apply below_alloc))
  replace ht := Ft.below ht hbx
  replace hl := Ft.below hl hbx
  replace hm := Ft.below hm hbx
  replace fm := Ft.below fm hbx
  replace hn := Ft.below hn hbx
  replace hz := Ft.below hz hbx
  replace ho := Ft.below ho hbx
  replace fo := Ft.below fo hbx
  clear hbx
  clear hg
  generalize w11.heap.size = p11 at S ⊢
  replace S : Kn ok w0 [(p11, .cells #[.int .i64 2, .slice A11 1 e11, .bool false, .int .i64 0, .int .i64 10, .bool false, .int .i64 10] TLk (0, 0)), (p10, .cells #[.int .i64 1, .slice A10 2 e10, .bool false, .int .i64 1, .int .i64 10, .bool false, .int .i64 10] TLk (0, 0)), (p8, .cells #[.int .i64 1, .slice A8 0 e8, .bool false, .int .i64 1, .int .i64 10, .bool false, .int .i64 10] TLk (0, 0)), (p6, .cells #[.int .i64 0, .slice A6 0 e6, .bool false, .int .i64 0, .int .i64 0, .bool false, .int .i64 0] TLk (0, 0)), (p4, .cells #[.int .i64 0, .slice A4 0 e4, .bool false, .int .i64 2, .int .i64 10, .bool true, .int .i64 10] TLk (0, 0)), (p3, .cells #[.string sa, .int .i64 4, .int .i64 0, .int .i64 0, .string s0] 72 (0, 0)), (p2, .cells #[.int .i64 4, .int .i64 0, .int .i64 0, .string s0] 32 (0, 0)), (p1, .cells #[.int .i64 2, .int .i64 2, .int .i64 1, .int .i64 5] TCf (0, 0))] nil tt [] w12 := S
  have c_0 : w12.cell? ⟨p1, 0, none⟩ = some (.int .i64 2) := S.cell 7 0 rfl rfl
  have c_1 : w12.cell? ⟨p1, 1, none⟩ = some (.int .i64 2) := S.cell 7 1 rfl rfl
  have c_2 : w12.cell? ⟨p1, 2, none⟩ = some (.int .i64 1) := S.cell 7 2 rfl rfl
  have c_3 : w12.cell? ⟨p1, 3, none⟩ = some (.int .i64 5) := S.cell 7 3 rfl rfl
  have o_0 : w12.cell? ⟨p11, 0, none⟩ = some (.int .i64 2) := S.cell 0 0 rfl rfl
  have o_1 : w12.cell? ⟨p11, 1, none⟩ = some (.slice A11 1 e11) := S.cell 0 1 rfl rfl
  have o_2 : w12.cell? ⟨p11, 2, none⟩ = some (.bool false) := S.cell 0 2 rfl rfl
  have o_3 : w12.cell? ⟨p11, 3, none⟩ = some (.int .i64 0) := S.cell 0 3 rfl rfl
  have o_4 : w12.cell? ⟨p11, 4, none⟩ = some (.int .i64 10) := S.cell 0 4 rfl rfl
  have o_5 : w12.cell? ⟨p11, 5, none⟩ = some (.bool false) := S.cell 0 5 rfl rfl
  have o_6 : w12.cell? ⟨p11, 6, none⟩ = some (.int .i64 10) := S.cell 0 6 rfl rfl
  go_wp2_with fail
  refine (emit_kn (ok := fun _ => True) (by decide) (by decide) (by decide) (by decide) live_p ho hz).mono ?_
  rintro e w13 ⟨A13, e13, B13, d13, rfl, hV, hF, hb⟩
  replace S := S.below hb
  replace ht := Ft.below ht hb
  replace hl := Ft.below hl hb
  replace hm := Ft.below hm hb
  replace fm := Ft.below fm hb
  replace hn := Ft.below hn hb
  replace hz := Ft.below hz hb
  replace ho := Ft.below ho hb
  replace fo := Ft.below fo hb
  have hp := Ft.all hV
  clear hV
  have fp := Ft.all hF
  clear hF
  clear c_0 c_1 c_2 c_3 o_0 o_1 o_2 o_3 o_4 o_5 o_6 hb
  go_upto_region 10 with (fail)
  generalize hg : World.alloc _ _ = w14
  replace S := S.new hg
  have hbx : Below w13.heap.size w13 w14 := hg ▸ (by repeat (first | exact Below.refl _ _ | apply below_alloc))
  replace ht := Ft.below ht hbx
  replace hl := Ft.below hl hbx
  replace hm := Ft.below hm hbx
  replace fm := Ft.below fm hbx
  replace hn := Ft.below hn hbx
  replace hz := Ft.below hz hbx
  replace ho := Ft.below ho hbx
  replace fo := Ft.below fo hbx
  replace hp := Ft.below hp hbx
  replace fp := Ft.below fp hbx
  clear hbx
  clear hg
  generalize w13.heap.size = p13 at S ⊢
  replace S : Kn ok w0 [(p13, .cells #[.int .i64 2, .slice A13 1 e13, .bool false, .int .i64 0, .int .i64 10, .bool false, .int .i64 10] TLk (0, 0)), (p11, .cells #[.int .i64 2, .slice A11 1 e11, .bool false, .int .i64 0, .int .i64 10, .bool false, .int .i64 10] TLk (0, 0)), (p10, .cells #[.int .i64 1, .slice A10 2 e10, .bool false, .int .i64 1, .int .i64 10, .bool false, .int .i64 10] TLk (0, 0)), (p8, .cells #[.int .i64 1, .slice A8 0 e8, .bool false, .int .i64 1, .int .i64 10, .bool false, .int .i64 10] TLk (0, 0)), (p6, .cells #[.int .i64 0, .slice A6 0 e6, .bool false, .int .i64 0, .int .i64 0, .bool false, .int .i64 0] TLk (0, 0)), (p4, .cells #[.int .i64 0, .slice A4 0 e4, .bool false, .int .i64 2, .int .i64 10, .bool true, .int .i64 10] TLk (0, 0)), (p3, .cells #[.string sa, .int .i64 4, .int .i64 0, .int .i64 0, .string s0] 72 (0, 0)), (p2, .cells #[.int .i64 4, .int .i64 0, .int .i64 0, .string s0] 32 (0, 0)), (p1, .cells #[.int .i64 2, .int .i64 2, .int .i64 1, .int .i64 5] TCf (0, 0))] nil tt [] w14 := S
  have c_0 : w14.cell? ⟨p1, 0, none⟩ = some (.int .i64 2) := S.cell 8 0 rfl rfl
  have c_1 : w14.cell? ⟨p1, 1, none⟩ = some (.int .i64 2) := S.cell 8 1 rfl rfl
  have c_2 : w14.cell? ⟨p1, 2, none⟩ = some (.int .i64 1) := S.cell 8 2 rfl rfl
  have c_3 : w14.cell? ⟨p1, 3, none⟩ = some (.int .i64 5) := S.cell 8 3 rfl rfl
  have o_0 : w14.cell? ⟨p11, 0, none⟩ = some (.int .i64 2) := S.cell 1 0 rfl rfl
  have o_1 : w14.cell? ⟨p11, 1, none⟩ = some (.slice A11 1 e11) := S.cell 1 1 rfl rfl
  have o_2 : w14.cell? ⟨p11, 2, none⟩ = some (.bool false) := S.cell 1 2 rfl rfl
  have o_3 : w14.cell? ⟨p11, 3, none⟩ = some (.int .i64 0) := S.cell 1 3 rfl rfl
  have o_4 : w14.cell? ⟨p11, 4, none⟩ = some (.int .i64 10) := S.cell 1 4 rfl rfl
  have o_5 : w14.cell? ⟨p11, 5, none⟩ = some (.bool false) := S.cell 1 5 rfl rfl
  have o_6 : w14.cell? ⟨p11, 6, none⟩ = some (.int .i64 10) := S.cell 1 6 rfl rfl
  go_wp2_with fail
  refine (emit_kn (ok := fun _ => True) (by decide) (by decide) (by decide) (by decide) live_q ho hz).mono ?_
  rintro e w15 ⟨A15, e15, B15, d15, rfl, hV, hF, hb⟩
  replace S := S.below hb
  replace ht := Ft.below ht hb
  replace hl := Ft.below hl hb
  replace hm := Ft.below hm hb
  replace fm := Ft.below fm hb
  replace hn := Ft.below hn hb
  replace hz := Ft.below hz hb
  replace ho := Ft.below ho hb
  replace fo := Ft.below fo hb
  replace hp := Ft.below hp hb
  replace fp := Ft.below fp hb
  have hq := Ft.all hV
  clear hV
  have fq := Ft.all hF
  clear hF
  clear c_0 c_1 c_2 c_3 o_0 o_1 o_2 o_3 o_4 o_5 o_6 hb
  go_upto_region 11 with (fail)
  generalize hg : World.alloc _ _ = w16
  replace S := S.new hg
  have hbx : Below w15.heap.size w15 w16 := hg ▸ (by repeat (first | exact Below.refl _ _ | apply below_alloc))
  replace ht := Ft.below ht hbx
  replace hl := Ft.below hl hbx
  replace hm := Ft.below hm hbx
  replace fm := Ft.below fm hbx
  replace hn := Ft.below hn hbx
  replace hz := Ft.below hz hbx
  replace ho := Ft.below ho hbx
  replace fo := Ft.below fo hbx
  replace hp := Ft.below hp hbx
  replace fp := Ft.below fp hbx
  replace hq := Ft.below hq hbx
  replace fq := Ft.below fq hbx
  clear hbx
  clear hg
  generalize w15.heap.size = p15 at S ⊢
  replace S : Kn ok w0 [(p15, .cells #[.int .i64 4, .slice A15 0 e15, .bool false, .int .i64 0, .int .i64 16, .bool false, .int .i64 16] TLk (0, 0)), (p13, .cells #[.int .i64 2, .slice A13 1 e13, .bool false, .int .i64 0, .int .i64 10, .bool false, .int .i64 10] TLk (0, 0)), (p11, .cells #[.int .i64 2, .slice A11 1 e11, .bool false, .int .i64 0, .int .i64 10, .bool false, .int .i64 10] TLk (0, 0)), (p10, .cells #[.int .i64 1, .slice A10 2 e10, .bool false, .int .i64 1, .int .i64 10, .bool false, .int .i64 10] TLk (0, 0)), (p8, .cells #[.int .i64 1, .slice A8 0 e8, .bool false, .int .i64 1, .int .i64 10, .bool false, .int .i64 10] TLk (0, 0)), (p6, .cells #[.int .i64 0, .slice A6 0 e6, .bool false, .int .i64 0, .int .i64 0, .bool false, .int .i64 0] TLk (0, 0)), (p4, .cells #[.int .i64 0, .slice A4 0 e4, .bool false, .int .i64 2, .int .i64 10, .bool true, .int .i64 10] TLk (0, 0)), (p3, .cells #[.string sa, .int .i64 4, .int .i64 0, .int .i64 0, .string s0] 72 (0, 0)), (p2, .cells #[.int .i64 4, .int .i64 0, .int .i64 0, .string s0] 32 (0, 0)), (p1, .cells #[.int .i64 2, .int .i64 2, .int .i64 1, .int .i64 5] TCf (0, 0))] nil tt [] w16 := S
  have c_0 : w16.cell? ⟨p1, 0, none⟩ = some (.int .i64 2) := S.cell 9 0 rfl rfl
  have c_1 : w16.cell? ⟨p1, 1, none⟩ = some (.int .i64 2) := S.cell 9 1 rfl rfl
  have c_2 : w16.cell? ⟨p1, 2, none⟩ = some (.int .i64 1) := S.cell 9 2 rfl rfl
  have c_3 : w16.cell? ⟨p1, 3, none⟩ = some (.int .i64 5) := S.cell 9 3 rfl rfl
  have n_0 : w16.cell? ⟨p10, 0, none⟩ = some (.int .i64 1) := S.cell 3 0 rfl rfl
  have n_1 : w16.cell? ⟨p10, 1, none⟩ = some (.slice A10 2 e10) := S.cell 3 1 rfl rfl
  have n_2 : w16.cell? ⟨p10, 2, none⟩ = some (.bool false) := S.cell 3 2 rfl rfl
  have n_3 : w16.cell? ⟨p10, 3, none⟩ = some (.int .i64 1) := S.cell 3 3 rfl rfl
  have n_4 : w16.cell? ⟨p10, 4, none⟩ = some (.int .i64 10) := S.cell 3 4 rfl rfl
  have n_5 : w16.cell? ⟨p10, 5, none⟩ = some (.bool false) := S.cell 3 5 rfl rfl
  have n_6 : w16.cell? ⟨p10, 6, none⟩ = some (.int .i64 10) := S.cell 3 6 rfl rfl
  go_wp2_with fail
  refine (push_kn (ok := fun _ => True) (chg sc) (by decide) live_r hn).mono ?_
  rintro e w17 ⟨A17, e17, rfl, hV, hb⟩
  replace S := S.below hb
  replace ht := Ft.below ht hb
  replace hl := Ft.below hl hb
  replace hm := Ft.below hm hb
  replace fm := Ft.below fm hb
  replace hn := Ft.below hn hb
  replace hz := Ft.below hz hb
  replace ho := Ft.below ho hb
  replace fo := Ft.below fo hb
  replace hp := Ft.below hp hb
  replace fp := Ft.below fp hb
  replace hq := Ft.below hq hb
  replace fq := Ft.below fq hb
  have hr := Ft.all hV
  clear hV
  clear c_0 c_1 c_2 c_3 n_0 n_1 n_2 n_3 n_4 n_5 n_6 hb
  go_upto_region 12 with (fail)
  generalize hg : World.alloc _ _ = w18
  replace S := S.new hg
  have hbx : Below w17.heap.size w17 w18 := hg ▸ (by repeat (first | exact Below.refl _ _ | apply below_alloc))
  replace ht := Ft.below ht hbx
  replace hl := Ft.below hl hbx
  replace hm := Ft.below hm hbx
  replace fm := Ft.below fm hbx
  replace hn := Ft.below hn hbx
  replace hz := Ft.below hz hbx
  replace ho := Ft.below ho hbx
  replace fo := Ft.below fo hbx
  replace hp := Ft.below hp hbx
  replace fp := Ft.below fp hbx
  replace hq := Ft.below hq hbx
  replace fq := Ft.below fq hbx
  replace hr := Ft.below hr hbx
  clear hbx
  clear hg
  generalize w17.heap.size = p17 at S ⊢
  replace S : Kn ok w0 [(p17, .cells #[.int .i64 1, .slice A17 0 e17, .bool false, .int .i64 1, .int .i64 10, .bool true, .int .i64 10] TLk (0, 0)), (p15, .cells #[.int .i64 4, .slice A15 0 e15, .bool false, .int .i64 0, .int .i64 16, .bool false, .int .i64 16] TLk (0, 0)), (p13, .cells #[.int .i64 2, .slice A13 1 e13, .bool false, .int .i64 0, .int .i64 10, .bool false, .int .i64 10] TLk (0, 0)), (p11, .cells #[.int .i64 2, .slice A11 1 e11, .bool false, .int .i64 0, .int .i64 10, .bool false, .int .i64 10] TLk (0, 0)), (p10, .cells #[.int .i64 1, .slice A10 2 e10, .bool false, .int .i64 1, .int .i64 10, .bool false, .int .i64 10] TLk (0, 0)), (p8, .cells #[.int .i64 1, .slice A8 0 e8, .bool false, .int .i64 1, .int .i64 10, .bool false, .int .i64 10] TLk (0, 0)), (p6, .cells #[.int .i64 0, .slice A6 0 e6, .bool false, .int .i64 0, .int .i64 0, .bool false, .int .i64 0] TLk (0, 0)), (p4, .cells #[.int .i64 0, .slice A4 0 e4, .bool false, .int .i64 2, .int .i64 10, .bool true, .int .i64 10] TLk (0, 0)), (p3, .cells #[.string sa, .int .i64 4, .int .i64 0, .int .i64 0, .string s0] 72 (0, 0)), (p2, .cells #[.int .i64 4, .int .i64 0, .int .i64 0, .string s0] 32 (0, 0)), (p1, .cells #[.int .i64 2, .int .i64 2, .int .i64 1, .int .i64 5] TCf (0, 0))] nil tt [] w18 := S
  clear ht hl hm hn hr hz
  have c_0 : w18.cell? ⟨p1, 0, none⟩ = some (.int .i64 2) := S.cell 10 0 rfl rfl
  have c_1 : w18.cell? ⟨p1, 1, none⟩ = some (.int .i64 2) := S.cell 10 1 rfl rfl
  have c_2 : w18.cell? ⟨p1, 2, none⟩ = some (.int .i64 1) := S.cell 10 2 rfl rfl
  have c_3 : w18.cell? ⟨p1, 3, none⟩ = some (.int .i64 5) := S.cell 10 3 rfl rfl
  have l_5 : w18.cell? ⟨p4, 5, none⟩ = some (.bool true) := S.cell 7 5 rfl rfl
  have m_0 : w18.cell? ⟨p8, 0, none⟩ = some (.int .i64 1) := S.cell 5 0 rfl rfl
  have m_5 : w18.cell? ⟨p8, 5, none⟩ = some (.bool false) := S.cell 5 5 rfl rfl
  have o_0 : w18.cell? ⟨p11, 0, none⟩ = some (.int .i64 2) := S.cell 3 0 rfl rfl
  have o_1 : w18.cell? ⟨p11, 1, none⟩ = some (.slice A11 1 e11) := S.cell 3 1 rfl rfl
  have o_2 : w18.cell? ⟨p11, 2, none⟩ = some (.bool false) := S.cell 3 2 rfl rfl
  have o_3 : w18.cell? ⟨p11, 3, none⟩ = some (.int .i64 0) := S.cell 3 3 rfl rfl
  have o_4 : w18.cell? ⟨p11, 4, none⟩ = some (.int .i64 10) := S.cell 3 4 rfl rfl
  have o_5 : w18.cell? ⟨p11, 5, none⟩ = some (.bool false) := S.cell 3 5 rfl rfl
  have o_6 : w18.cell? ⟨p11, 6, none⟩ = some (.int .i64 10) := S.cell 3 6 rfl rfl
  have p_0 : w18.cell? ⟨p13, 0, none⟩ = some (.int .i64 2) := S.cell 2 0 rfl rfl
  have p_1 : w18.cell? ⟨p13, 1, none⟩ = some (.slice A13 1 e13) := S.cell 2 1 rfl rfl
  have p_2 : w18.cell? ⟨p13, 2, none⟩ = some (.bool false) := S.cell 2 2 rfl rfl
  have p_3 : w18.cell? ⟨p13, 3, none⟩ = some (.int .i64 0) := S.cell 2 3 rfl rfl
  have p_4 : w18.cell? ⟨p13, 4, none⟩ = some (.int .i64 10) := S.cell 2 4 rfl rfl
  have p_5 : w18.cell? ⟨p13, 5, none⟩ = some (.bool false) := S.cell 2 5 rfl rfl
  have p_6 : w18.cell? ⟨p13, 6, none⟩ = some (.int .i64 10) := S.cell 2 6 rfl rfl
  have q_0 : w18.cell? ⟨p15, 0, none⟩ = some (.int .i64 4) := S.cell 1 0 rfl rfl
  have q_1 : w18.cell? ⟨p15, 1, none⟩ = some (.slice A15 0 e15) := S.cell 1 1 rfl rfl
  have q_2 : w18.cell? ⟨p15, 2, none⟩ = some (.bool false) := S.cell 1 2 rfl rfl
  have q_3 : w18.cell? ⟨p15, 3, none⟩ = some (.int .i64 0) := S.cell 1 3 rfl rfl
  have q_4 : w18.cell? ⟨p15, 4, none⟩ = some (.int .i64 16) := S.cell 1 4 rfl rfl
  have q_5 : w18.cell? ⟨p15, 5, none⟩ = some (.bool false) := S.cell 1 5 rfl rfl
  have q_6 : w18.cell? ⟨p15, 6, none⟩ = some (.int .i64 16) := S.cell 1 6 rfl rfl
  have r_1 : w18.cell? ⟨p17, 1, none⟩ = some (.slice A17 0 e17) := S.cell 0 1 rfl rfl
  have r_5 : w18.cell? ⟨p17, 5, none⟩ = some (.bool true) := S.cell 0 5 rfl rfl
  obtain ⟨ax, Ax, cx, hex, x0, x1, x2, x3, x4, x5, x6, x7, x8, x9, hcx, hkx⟩ := at_T60 (Kd.V_reads' (e := 0) (base := 0) fm).2.2 ((0 : Nat) : Int) (by decide) (by decide)
  clear hcx hkx
  rw [Int.toNat_natCast] at x0 x1 x2 x3 x4 x5 x6 x7 x8 x9
  simp only [show ∀ l : List Fr, rd_T60 (fr1 :: l) ((0 : Nat) : Int) = fr1 from fun _ => rfl, show ∀ (a : Fr) (l : List Fr), rd_T60 (a :: fr1 :: l) ((1 : Nat) : Int) = fr1 from fun _ _ => rfl, Nat.zero_mul, Nat.one_mul, add0, add10] at x0 x1 x2 x3 x4 x5 x6 x7 x8 x9
  clear x1 x2 x3 x4 x5 x6 x7 x8
  subst hex
  obtain ⟨ay, Ay, cy, hey, y0, y1, y2, y3, y4, y5, y6, y7, y8, y9, hcy, hky⟩ := at_T60 (Kd.V_reads' (e := 0) (base := 0) fo).2.2 ((0 : Nat) : Int) (by decide) (by decide)
  clear hcy hky
  rw [Int.toNat_natCast] at y0 y1 y2 y3 y4 y5 y6 y7 y8 y9
  simp only [show ∀ l : List Fr, rd_T60 (fr2 :: l) ((0 : Nat) : Int) = fr2 from fun _ => rfl, show ∀ (a : Fr) (l : List Fr), rd_T60 (a :: fr2 :: l) ((1 : Nat) : Int) = fr2 from fun _ _ => rfl, Nat.zero_mul, Nat.one_mul, add0, add10] at y0 y1 y2 y3 y4 y5 y6 y7 y8 y9
  clear y2 y4 y5 y6 y7 y8 y9
  subst hey
  obtain ⟨az, Az, cz, hez, z0, z1, z2, z3, z4, z5, z6, z7, z8, z9, hcz, hkz⟩ := at_T60 (Kd.V_reads' (e := 0) (base := 0) fq).2.2 ((0 : Nat) : Int) (by decide) (by decide)
  clear hcz hkz
  rw [Int.toNat_natCast] at z0 z1 z2 z3 z4 z5 z6 z7 z8 z9
  simp only [show ∀ l : List Fr, rd_T60 (fr3 :: l) ((0 : Nat) : Int) = fr3 from fun _ => rfl, show ∀ (a : Fr) (l : List Fr), rd_T60 (a :: fr3 :: l) ((1 : Nat) : Int) = fr3 from fun _ _ => rfl, Nat.zero_mul, Nat.one_mul, add0, add10] at z0 z1 z2 z3 z4 z5 z6 z7 z8 z9
  clear z0 z1 z2 z4 z5 z6 z7 z8 z9
  obtain ⟨av, Av, cv, hev, v0, v1, v2, v3, v4, v5, v6, v7, v8, v9, hcv, hkv⟩ := at_T60 (Kd.V_reads' (e := 0) (base := 0) fq).2.2 ((1 : Nat) : Int) (by decide) (by decide)
  clear hcv hkv
  rw [Int.toNat_natCast] at v0 v1 v2 v3 v4 v5 v6 v7 v8 v9
  simp only [show ∀ l : List Fr, rd_T60 (fr4 :: l) ((0 : Nat) : Int) = fr4 from fun _ => rfl, show ∀ (a : Fr) (l : List Fr), rd_T60 (a :: fr4 :: l) ((1 : Nat) : Int) = fr4 from fun _ _ => rfl, Nat.zero_mul, Nat.one_mul, add0, add10] at v0 v1 v2 v3 v4 v5 v6 v7 v8 v9
  clear v2 v3 v4 v5 v6 v7 v8 v9
  obtain rfl : az = av := Option.some.inj (hez.symm.trans hev)
  subst hez
  clear hev
  clear fm fo fp fq
  have hzc : ∀ w : World, (V kCh (.slice none 0 0) []).P w (fun _ => True) := fun w => V_any (Kd.V_nil kCh 0 w 0 _)
  go_wp2_with fail
  refine (rollcallref18_Same.kn 1100 (same18 1100 2 [chg sb] false 0 10 false 10 (by decide) (by decide)) ho hp).mono ?_
  rintro e w19 ⟨rfl, hb⟩
  replace c_0 := pw_cell_below hb c_0
  replace c_1 := pw_cell_below hb c_1
  replace c_2 := pw_cell_below hb c_2
  replace c_3 := pw_cell_below hb c_3
  replace l_5 := pw_cell_below hb l_5
  replace m_0 := pw_cell_below hb m_0
  replace m_5 := pw_cell_below hb m_5
  replace o_0 := pw_cell_below hb o_0
  replace o_1 := pw_cell_below hb o_1
  replace o_2 := pw_cell_below hb o_2
  replace o_3 := pw_cell_below hb o_3
  replace o_4 := pw_cell_below hb o_4
  replace o_5 := pw_cell_below hb o_5
  replace o_6 := pw_cell_below hb o_6
  replace p_0 := pw_cell_below hb p_0
  replace p_1 := pw_cell_below hb p_1
  replace p_2 := pw_cell_below hb p_2
  replace p_3 := pw_cell_below hb p_3
  replace p_4 := pw_cell_below hb p_4
  replace p_5 := pw_cell_below hb p_5
  replace p_6 := pw_cell_below hb p_6
  replace q_0 := pw_cell_below hb q_0
  replace q_1 := pw_cell_below hb q_1
  replace q_2 := pw_cell_below hb q_2
  replace q_3 := pw_cell_below hb q_3
  replace q_4 := pw_cell_below hb q_4
  replace q_5 := pw_cell_below hb q_5
  replace q_6 := pw_cell_below hb q_6
  replace r_1 := pw_cell_below hb r_1
  replace r_5 := pw_cell_below hb r_5
  replace z3 := pw_cell_below hb z3
  replace v0 := pw_cell_below hb v0
  replace v1 := pw_cell_below hb v1
  replace ho := Ft.below ho hb
  replace hp := Ft.below hp hb
  replace hq := Ft.below hq hb
  replace S := S.below hb
  clear hb
  go_wp2_with fail
  refine (link_Quiet.kn (show link_Quiet.f 4 [] false 0 16 false 16 = some true from rfl) hq).mono ?_
  rintro e w20 ⟨rfl, hb⟩
  replace c_0 := pw_cell_below hb c_0
  replace c_1 := pw_cell_below hb c_1
  replace c_2 := pw_cell_below hb c_2
  replace c_3 := pw_cell_below hb c_3
  replace l_5 := pw_cell_below hb l_5
  replace m_0 := pw_cell_below hb m_0
  replace m_5 := pw_cell_below hb m_5
  replace o_0 := pw_cell_below hb o_0
  replace o_1 := pw_cell_below hb o_1
  replace o_2 := pw_cell_below hb o_2
  replace o_3 := pw_cell_below hb o_3
  replace o_4 := pw_cell_below hb o_4
  replace o_5 := pw_cell_below hb o_5
  replace o_6 := pw_cell_below hb o_6
  replace p_0 := pw_cell_below hb p_0
  replace p_1 := pw_cell_below hb p_1
  replace p_2 := pw_cell_below hb p_2
  replace p_3 := pw_cell_below hb p_3
  replace p_4 := pw_cell_below hb p_4
  replace p_5 := pw_cell_below hb p_5
  replace p_6 := pw_cell_below hb p_6
  replace q_0 := pw_cell_below hb q_0
  replace q_1 := pw_cell_below hb q_1
  replace q_2 := pw_cell_below hb q_2
  replace q_3 := pw_cell_below hb q_3
  replace q_4 := pw_cell_below hb q_4
  replace q_5 := pw_cell_below hb q_5
  replace q_6 := pw_cell_below hb q_6
  replace r_1 := pw_cell_below hb r_1
  replace r_5 := pw_cell_below hb r_5
  replace z3 := pw_cell_below hb z3
  replace v0 := pw_cell_below hb v0
  replace v1 := pw_cell_below hb v1
  replace ho := Ft.below ho hb
  replace hp := Ft.below hp hb
  replace hq := Ft.below hq hb
  replace S := S.below hb
  clear hb
  go_wp2_with fail
  refine (link_Quiet.kn (show link_Quiet.f 2 [chg sb] false 0 10 false 10 = some false from rfl) ho).mono ?_
  rintro e w21 ⟨rfl, hb⟩
  replace c_0 := pw_cell_below hb c_0
  replace c_1 := pw_cell_below hb c_1
  replace c_2 := pw_cell_below hb c_2
  replace c_3 := pw_cell_below hb c_3
  replace l_5 := pw_cell_below hb l_5
  replace m_0 := pw_cell_below hb m_0
  replace m_5 := pw_cell_below hb m_5
  replace o_0 := pw_cell_below hb o_0
  replace o_1 := pw_cell_below hb o_1
  replace o_2 := pw_cell_below hb o_2
  replace o_3 := pw_cell_below hb o_3
  replace o_4 := pw_cell_below hb o_4
  replace o_5 := pw_cell_below hb o_5
  replace o_6 := pw_cell_below hb o_6
  replace p_0 := pw_cell_below hb p_0
  replace p_1 := pw_cell_below hb p_1
  replace p_2 := pw_cell_below hb p_2
  replace p_3 := pw_cell_below hb p_3
  replace p_4 := pw_cell_below hb p_4
  replace p_5 := pw_cell_below hb p_5
  replace p_6 := pw_cell_below hb p_6
  replace q_0 := pw_cell_below hb q_0
  replace q_1 := pw_cell_below hb q_1
  replace q_2 := pw_cell_below hb q_2
  replace q_3 := pw_cell_below hb q_3
  replace q_4 := pw_cell_below hb q_4
  replace q_5 := pw_cell_below hb q_5
  replace q_6 := pw_cell_below hb q_6
  replace r_1 := pw_cell_below hb r_1
  replace r_5 := pw_cell_below hb r_5
  replace z3 := pw_cell_below hb z3
  replace v0 := pw_cell_below hb v0
  replace v1 := pw_cell_below hb v1
  replace ho := Ft.below ho hb
  replace hp := Ft.below hp hb
  replace hq := Ft.below hq hb
  replace S := S.below hb
  clear hb
  go_wp2_with fail
  refine (link_May.kn 200 live_x hq).mono ?_
  rintro e w22 ⟨rfl, hb⟩
  replace c_0 := pw_cell_below hb c_0
  replace c_1 := pw_cell_below hb c_1
  replace c_2 := pw_cell_below hb c_2
  replace c_3 := pw_cell_below hb c_3
  replace l_5 := pw_cell_below hb l_5
  replace m_0 := pw_cell_below hb m_0
  replace m_5 := pw_cell_below hb m_5
  replace o_0 := pw_cell_below hb o_0
  replace o_1 := pw_cell_below hb o_1
  replace o_2 := pw_cell_below hb o_2
  replace o_3 := pw_cell_below hb o_3
  replace o_4 := pw_cell_below hb o_4
  replace o_5 := pw_cell_below hb o_5
  replace o_6 := pw_cell_below hb o_6
  replace p_0 := pw_cell_below hb p_0
  replace p_1 := pw_cell_below hb p_1
  replace p_2 := pw_cell_below hb p_2
  replace p_3 := pw_cell_below hb p_3
  replace p_4 := pw_cell_below hb p_4
  replace p_5 := pw_cell_below hb p_5
  replace p_6 := pw_cell_below hb p_6
  replace q_0 := pw_cell_below hb q_0
  replace q_1 := pw_cell_below hb q_1
  replace q_2 := pw_cell_below hb q_2
  replace q_3 := pw_cell_below hb q_3
  replace q_4 := pw_cell_below hb q_4
  replace q_5 := pw_cell_below hb q_5
  replace q_6 := pw_cell_below hb q_6
  replace r_1 := pw_cell_below hb r_1
  replace r_5 := pw_cell_below hb r_5
  replace z3 := pw_cell_below hb z3
  replace v0 := pw_cell_below hb v0
  replace v1 := pw_cell_below hb v1
  replace ho := Ft.below ho hb
  replace hp := Ft.below hp hb
  replace hq := Ft.below hq hb
  replace S := S.below hb
  clear hb
  go_wp2_with fail
  refine (link_May.kn 200 live_y (hzc _)).mono ?_
  rintro e w23 ⟨rfl, hb⟩
  replace c_0 := pw_cell_below hb c_0
  replace c_1 := pw_cell_below hb c_1
  replace c_2 := pw_cell_below hb c_2
  replace c_3 := pw_cell_below hb c_3
  replace l_5 := pw_cell_below hb l_5
  replace m_0 := pw_cell_below hb m_0
  replace m_5 := pw_cell_below hb m_5
  replace o_0 := pw_cell_below hb o_0
  replace o_1 := pw_cell_below hb o_1
  replace o_2 := pw_cell_below hb o_2
  replace o_3 := pw_cell_below hb o_3
  replace o_4 := pw_cell_below hb o_4
  replace o_5 := pw_cell_below hb o_5
  replace o_6 := pw_cell_below hb o_6
  replace p_0 := pw_cell_below hb p_0
  replace p_1 := pw_cell_below hb p_1
  replace p_2 := pw_cell_below hb p_2
  replace p_3 := pw_cell_below hb p_3
  replace p_4 := pw_cell_below hb p_4
  replace p_5 := pw_cell_below hb p_5
  replace p_6 := pw_cell_below hb p_6
  replace q_0 := pw_cell_below hb q_0
  replace q_1 := pw_cell_below hb q_1
  replace q_2 := pw_cell_below hb q_2
  replace q_3 := pw_cell_below hb q_3
  replace q_4 := pw_cell_below hb q_4
  replace q_5 := pw_cell_below hb q_5
  replace q_6 := pw_cell_below hb q_6
  replace r_1 := pw_cell_below hb r_1
  replace r_5 := pw_cell_below hb r_5
  replace z3 := pw_cell_below hb z3
  replace v0 := pw_cell_below hb v0
  replace v1 := pw_cell_below hb v1
  replace ho := Ft.below ho hb
  replace hp := Ft.below hp hb
  replace hq := Ft.below hq hb
  replace S := S.below hb
  clear hb
  go_wp2
  go_ret
  exact ⟨rfl, S.bel⟩
theorem live_walk (w : World) : Calls Try.prog 11 #[] w fun e w' => e = .returned (.bool true) ∧ Below w.heap.size w w' := live_go (fun _ => True) w w (Kn.start _ w)
end Go.Proofs.Ytmigglldahkngaa.XTell
end

section
/- What a link is behind what it told, in plain lists: it may be one, and has nothing to tell at once again. -/
namespace Go.Proofs.Ytmigglldahkngaa.XTell
open Go.RowKit Go.Proofs.Ytmigglldahkngaa.PA Go.Proofs.YtmigglldahkngaaW.PrintWords Go.Proofs.YtmigglldahkngaaW.PrintLast Go.Proofs.Ytmigglldahkngaa.XGen
open Go.Proofs.Ytmigglldahkngaa.XV17 (mayT mayK mayQ mayK_iff oneB Apart OneP LV fits_iff refMayQ_f refMay_b may_f may_b one_size apart_tail rounds emit_all next_less)
open Go.Proofs.Ytmigglldahkngaa.XPace (TK Fits lvl tk lvl_le)
open Go.Proofs.Ytmigglldahkngaa.XSum (Se)
set_option linter.unusedVariables false
set_option linter.unusedSimpArgs false
theorem mayQ_iff (l : List Ch) (lat : Bool) (room : Int) (hl : l.length ≤ 40) : mayQ l lat room = true ↔ (l.length : Int) ≤ room ∧ (lat = true → l = []) ∧ (∀ x ∈ l, oneB x = true) ∧ Apart l := by
 constructor
 ·intro h
  obtain ⟨b, h1, h2⟩ := refMayQ_f 200 l lat room (by omega) (by omega)
  rw [refMay_b 200 l lat room (by omega) (by omega)] at h1
  exact h2 ((Option.some.inj h1).symm.trans h)
 ·rintro ⟨h1, h2, h3, h4⟩
  have hs : ∀ x ∈ l, x.f0.size ≤ 9223372036854775807 := fun x hx => one_size (h3 x hx)
  have e := may_f 200 l lat room (by omega) hs h1 h2 h3 h4 (by omega)
  rw [may_b 200 l lat room (by omega) hs (by omega)] at e
  exact Option.some.inj e
/-- The link of a state. -/
abbrev mayS (c0 c1 c2 c3 : Int) (st : St) : Bool := mayK c0 c1 c2 c3 st.s st.q false st.tok st.at_ st.sn st.dg
theorem TK_one {c0 c1 c2 c3 t a n : Int} (h : OneP c0 c1 c2 c3 t a) (hn : 0 ≤ n ∧ n ≤ 1099511627776) : OneP c0 c1 c2 c3 (TK c0 c1 c2 c3 t a n).1 (TK c0 c1 c2 c3 t a n).2.1 := by
 have hf : Fits c0 c1 c2 c3 t a n := (fits_iff _ _ _ _ _ _ _).2 ⟨h, hn⟩
 have hl := lvl_le hf
 unfold TK
 rw [if_pos hf]
 unfold OneP at h ⊢
 split <;> simp only <;> omega
theorem next_dgB {c3 now : Int} {t : List Se} {st : St} {f : Fr} {q' : List Ch} {sn' : Bool} {dg' : Int} (hx : nextP c3 now t st = some (f, q', sn', dg')) (h : 0 ≤ st.dg ∧ st.dg ≤ 1099511627776) (hn : 0 ≤ now ∧ now ≤ 1099511627776) : 0 ≤ dg' ∧ dg' ≤ 1099511627776 := by
 obtain ⟨s, q, sn, tok, at_, dg, fs⟩ := st
 exact next_dg hx h.1 h.2 hn.1 hn.2
theorem next_sn {c3 now : Int} {t : List Se} {st : St} {f : Fr} {q' : List Ch} {sn' : Bool} {dg' : Int} (hx : nextP c3 now t st = some (f, q', sn', dg')) : sn' = false ∧ (q' = st.q ∨ ∃ x, st.q = x :: q') := by
 unfold nextP at hx
 split at hx
 ·simp only [Option.some.injEq, Prod.mk.injEq] at hx
  obtain ⟨_, rfl, rfl, _⟩ := hx
  exact ⟨rfl, .inl rfl⟩
 ·split at hx
  ·rename_i e
   simp only [Option.some.injEq, Prod.mk.injEq] at hx
   obtain ⟨_, rfl, rfl, _⟩ := hx
   exact ⟨rfl, .inr ⟨_, e⟩⟩
  ·rename_i e
   split at hx
   ·cases hx
   ·simp only [Option.some.injEq, Prod.mk.injEq] at hx
    obtain ⟨_, rfl, rfl, _⟩ := hx
    exact ⟨rfl, .inl e.symm⟩
theorem mayQ_tail {x : Ch} {l : List Ch} {room : Int} (hl : (x :: l).length ≤ 40) (h : mayQ (x :: l) false room = true) : mayQ l false room = true := by
 have hl' : l.length ≤ 40 := by simp at hl; omega
 rw [mayQ_iff _ _ _ hl] at h
 rw [mayQ_iff _ _ _ hl']
 obtain ⟨h1, h2, h3, h4⟩ := h
 refine ⟨by simp at h1; omega, fun e => absurd e (by simp), fun y hy => h3 y (List.mem_cons_of_mem _ hy), apart_tail h4⟩
theorem step_may {c0 c1 c2 c3 now : Int} {t : List Se} {st : St} {f : Fr} {q' : List Ch} {sn' : Bool} {dg' : Int} (hq : st.q.length ≤ 40) (hm : mayS c0 c1 c2 c3 st = true) (hs : st.s < 1099511627776) (hn : 0 ≤ now ∧ now ≤ 1099511627776) (hx : nextP c3 now t st = some (f, q', sn', dg')) (fs : List Fr) :
  mayS c0 c1 c2 c3 ⟨st.s + 1, q', sn', (TK c0 c1 c2 c3 st.tok st.at_ now).1, (TK c0 c1 c2 c3 st.tok st.at_ now).2.1, dg', fs⟩ = true := by
 obtain ⟨h1, h2, h3, h4, h5, h6⟩ := (mayK_iff _ _ _ _ _ _ _ _ _ _ _).1 hm
 obtain ⟨e1, e2⟩ := next_sn hx
 refine (mayK_iff _ _ _ _ _ _ _ _ _ _ _).2 ⟨TK_one h1 hn, ⟨by show 0 ≤ st.s + 1; omega, by show st.s + 1 ≤ _; omega⟩, ?_, rfl, next_dgB hx h5 hn, fun e => by rw [e1] at e; cases e⟩
 rcases e2 with e2 | ⟨x, e2⟩
 ·show mayQ q' false c0 = true
  rw [e2]; exact h3
 ·show mayQ q' false c0 = true
  rw [e2] at h3 hq
  exact mayQ_tail hq h3
/-- What a link is behind what it told. -/
theorem emit_stuck {c0 c1 c2 c3 now : Int} {t : List Se} (hn : 0 ≤ now ∧ now ≤ 1099511627776) : ∀ (k : Nat) (st R : St), st.q.length ≤ 40 → mayS c0 c1 c2 c3 st = true → emitP c0 c1 c2 c3 now t k st = some R →
  mayS c0 c1 c2 c3 R = true ∧ R.q.length ≤ st.q.length ∧ (¬ R.s < 1099511627776 ∨ ¬ (TK c0 c1 c2 c3 R.tok R.at_ now).2.2 = true ∨ nextP c3 now t R = none) ∧ R.s = st.s + (R.fs.length - st.fs.length : Int) := by
 intro k
 induction k with
 | zero => intro st R _ _ h; simp [emitP] at h
 | succ k ih =>
  intro st R hq hm h
  rw [emitP] at h
  by_cases h1 : st.s < 1099511627776
  rotate_left
  ·rw [if_neg h1] at h
   obtain rfl := Option.some.inj h
   exact ⟨hm, Nat.le_refl _, .inl h1, by omega⟩
  rw [if_pos h1] at h
  by_cases h2 : (TK c0 c1 c2 c3 st.tok st.at_ now).2.2 = true
  rotate_left
  ·rw [if_neg h2] at h
   obtain rfl := Option.some.inj h
   exact ⟨hm, Nat.le_refl _, .inr (.inl h2), by omega⟩
  rw [if_pos h2] at h
  rcases hx : nextP c3 now t st with _ | ⟨f, q', sn', dg'⟩
  ·rw [hx] at h
   obtain rfl := Option.some.inj h
   exact ⟨hm, Nat.le_refl _, .inr (.inr hx), by omega⟩
  ·rw [hx] at h
   have hq' : q'.length ≤ st.q.length := by
    rcases (next_sn hx).2 with e | ⟨x, e⟩ <;> rw [e]
    ·exact Nat.le_refl _
    ·simp
   obtain ⟨r1, r2, r3, r4⟩ := ih _ R (Nat.le_trans hq' hq) (step_may hq hm h1 hn hx (st.fs ++ [f])) h
   refine ⟨r1, Nat.le_trans r2 hq', r3, ?_⟩
   rw [r4]
   simp only [List.length_append, List.length_cons, List.length_nil]
   omega
theorem emitP_again {c0 c1 c2 c3 now : Int} {t : List Se} (R : St) (h : ¬ R.s < 1099511627776 ∨ ¬ (TK c0 c1 c2 c3 R.tok R.at_ now).2.2 = true ∨ nextP c3 now t R = none) (k : Nat) : emitP c0 c1 c2 c3 now t (k + 1) ⟨R.s, R.q, R.sn, R.tok, R.at_, R.dg, []⟩ = some ⟨R.s, R.q, R.sn, R.tok, R.at_, R.dg, []⟩ := by
 have hx : nextP c3 now t ⟨R.s, R.q, R.sn, R.tok, R.at_, R.dg, []⟩ = nextP c3 now t R := rfl
 rw [emitP]
 by_cases h1 : R.s < 1099511627776
 ·rw [if_pos h1]
  by_cases h2 : (TK c0 c1 c2 c3 R.tok R.at_ now).2.2 = true
  ·rw [if_pos h2, hx]
   rcases h with h | h | h
   ·exact absurd h1 h
   ·exact absurd h2 h
   ·rw [h]
  ·rw [if_neg h2]
 ·rw [if_neg h1]
theorem emitK_twice {c0 c1 c2 c3 s : Int} {q : List Ch} {tok at_ : Int} {sn : Bool} {dg : Int} {t : List Se} {now : Int} (hq : q.length ≤ 40) (hm : mayK c0 c1 c2 c3 s q false tok at_ sn dg = true) (ht : mayT t = true) (hn : 0 ≤ now ∧ now ≤ 1099511627776) {R : St} (h : emitK c0 c1 c2 c3 s q false tok at_ sn dg t now = some R) :
  emitK c0 c1 c2 c3 R.s R.q false R.tok R.at_ R.sn R.dg t now = some ⟨R.s, R.q, R.sn, R.tok, R.at_, R.dg, []⟩ := by
 unfold emitK at h ⊢
 rw [if_pos ⟨hm, ht, hn⟩] at h
 obtain ⟨h1, h2, h3, _⟩ := emit_stuck hn 50 ⟨s, q, sn, tok, at_, dg, []⟩ R hq hm h
 rw [if_pos ⟨h1, ht, hn⟩]
 exact emitP_again R h3 49
/-- What a link tells that is asked. -/
theorem emitK_asked {c0 c1 c2 c3 s : Int} {tok at_ dg : Int} {t : List Se} {now : Int} (hm : mayK c0 c1 c2 c3 s [] false tok at_ true dg = true) (hs : s < 1099511627776) (ht : mayT t = true) (hn : 0 ≤ now ∧ now ≤ 1099511627776) :
  (LV c0 c1 c2 c3 tok at_ now = 0 ∧ emitK c0 c1 c2 c3 s [] false tok at_ true dg t now = some ⟨s, [], true, tok, at_, dg, []⟩) ∨
  (LV c0 c1 c2 c3 tok at_ now ≠ 0 ∧ ∃ tok' at', emitK c0 c1 c2 c3 s [] false tok at_ true dg t now = some ⟨s + 1, [], false, tok', at', now, [⟨3, s, false, ⟨#[]⟩, ⟨0, 0, 0, ⟨#[]⟩⟩, 0, t⟩]⟩) := by
 obtain ⟨h1, h2, h3, h4, h5, h6⟩ := (mayK_iff _ _ _ _ _ _ _ _ _ _ _).1 hm
 have hf : Fits c0 c1 c2 c3 tok at_ now := (fits_iff _ _ _ _ _ _ _).2 ⟨h1, hn⟩
 unfold emitK
 rw [if_pos ⟨hm, ht, hn⟩, emitP, if_pos hs]
 have hT : TK c0 c1 c2 c3 tok at_ now = if lvl c1 c2 tok at_ now = 0 then (0, at_ + tk at_ now, false) else (lvl c1 c2 tok at_ now - 1, at_ + tk at_ now, true) := by unfold TK; rw [if_pos hf]
 have hL : LV c0 c1 c2 c3 tok at_ now = lvl c1 c2 tok at_ now := by unfold LV; rw [if_pos hf]
 rw [hL]
 by_cases h0 : lvl c1 c2 tok at_ now = 0
 ·refine .inl ⟨h0, ?_⟩
  rw [hT, if_pos h0, if_neg (by simp)]
 ·refine .inr ⟨h0, ?_⟩
  rw [hT, if_neg h0, if_pos rfl]
  have hx : nextP c3 now t ⟨s, [], true, tok, at_, dg, []⟩ = some (⟨3, s, false, ⟨#[]⟩, ⟨0, 0, 0, ⟨#[]⟩⟩, 0, t⟩, [], false, now) := by simp [nextP]
  rw [hx]
  dsimp only
  have h3' : 1 ≤ c3 := by unfold OneP at h1; omega
  rw [emitP]
  have hx2 : ∀ (a b : Int) (fs : List Fr), nextP c3 now t ⟨s + 1, [], false, a, b, now, fs⟩ = none := fun a b fs => by
   simp only [nextP, Int.sub_self]
   simp
   omega
  split
  ·split
   ·rw [hx2]; exact ⟨_, _, rfl⟩
   ·exact ⟨_, _, rfl⟩
  ·exact ⟨_, _, rfl⟩
end Go.Proofs.Ytmigglldahkngaa.XTell
end

section
/- What came in and reads as data is of its kind: a law's arguments of whatever type (numbers, bools, texts, slices, structs, arrays of these, one in the other), opened by their kinds. -/

namespace Go.Proofs.Ytmigglldahkngaa.XOpen
open Go.RowKit Go.ChangeShapes Go.WideShapes Go.Deep Go.Proofs.YtmigglldahkngaaW.PrintWords Go.Proofs.YtmigglldahkngaaW.PrintLast Go.Proofs.YtmigglldahkngaaW.PrintMore
set_option linter.unusedVariables false
set_option linter.unusedSimpArgs false

/-- Whatever reads as data at type t is of kind d, and within its bounds. -/
def Opens (P : Program) (t : TypeId) {α : Type} (d : Kd α) (Ok : α → Prop) : Prop :=
 ∀ {H : Type} (enc : TypeId × Value → H) (w : World) (base : Nat) (spare : Nat → Bool) (held : Bool) (fuel : Nat) (cs : List Value) (x : DataW H × List MemPlace),
  DataW.trod enc P w base spare held fuel t cs = some x → ∃ a, d.K w a cs ∧ Ok a
/-- The same of a struct's fields (an array's elements), one behind the other. -/
def OpensL (P : Program) (ts : List TypeId) {α : Type} (d : Kd α) (Ok : α → Prop) : Prop :=
 ∀ {H : Type} (enc : TypeId × Value → H) (w : World) (base : Nat) (spare : Nat → Bool) (held : Bool) (fuel : Nat) (css : List (List Value)),
  css.length = ts.length → (∀ (j : Nat) (t : TypeId) (cs : List Value), ts[j]? = some t → css[j]? = some cs → ∃ x : DataW H × List MemPlace, DataW.trod enc P w base spare held fuel t cs = some x) → ∃ a, d.K w a css.flatten ∧ Ok a
section
variable {P : Program} {t e : TypeId}
theorem Opens.int {k : IntKind} (ht : P.underlying t = some (.int k)) : Opens P t (Kd.int k) (fun n => (Lit.int k n).wf = true) := by
 intro H enc w base spare held fuel cs x h
 obtain ⟨n, rfl, _, hw⟩ := DataW.trod_int ht h
 exact ⟨n, rfl, hw⟩
theorem Opens.bool (ht : P.underlying t = some .bool) : Opens P t Kd.bool (fun _ => True) := by
 intro H enc w base spare held fuel cs x h
 obtain ⟨n, rfl, _⟩ := DataW.trod_bool ht h
 exact ⟨n, rfl, trivial⟩
theorem Opens.string (ht : P.underlying t = some .string) : Opens P t Kd.string (fun s => s.size ≤ maxLen) := by
 intro H enc w base spare held fuel cs x h
 obtain ⟨s, rfl, _, hw⟩ := DataW.trod_string ht h
 exact ⟨s, rfl, hw⟩
theorem Opens.slice {α : Type} {d : Kd α} {Ok : α → Prop} (ht : P.underlying t = some (.slice e)) (hc : P.cellsOf e = d.sz) (z : α) (hd : Opens P e d Ok) : Opens P t (Kd.slice e d) (fun l => l.length ≤ maxLen ∧ ∀ a ∈ l, Ok a) := by
 intro H enc w base spare held fuel cs x h
 rcases open_slice ht h with ⟨rfl, _⟩ | ⟨a, len, cap, m, n, D, Pl, rfl, hb, hl, hm, hmm, _, hx⟩
 ·exact ⟨[], ⟨none, 0, rfl, Nat.le_refl _, ⟨rfl, Nat.zero_le _, fun h => absurd h (Nat.lt_irrefl _)⟩⟩, Nat.zero_le _, fun a ha => by cases ha⟩
 ·have hlm : len ≤ m := by rw [hmm]; split <;> omega
  have : Inhabited α := ⟨z⟩
  obtain ⟨f, hf⟩ := choose_lt (α := α) (n := len) (p := fun i a' => ∃ cs', w.cells? base (a.add (i * d.sz)) d.sz = some cs' ∧ d.K w a' cs' ∧ Ok a') (fun i hi => by
   obtain ⟨cs', h1, h2⟩ := hx i (by omega)
   obtain ⟨a', h3, h4⟩ := hd enc w base spare held n cs' _ h2
   rw [hc] at h1
   exact ⟨a', cs', h1, h3, h4⟩)
  refine ⟨(List.range len).map f, ⟨some a, cap, by simp, by simpa using hl, ?_⟩, by simp; omega, ?_⟩
  ·refine ⟨by simp, by simp; unfold maxLen at hm; omega, fun _ => ⟨a, rfl, fun j p hj => ?_⟩⟩
   have hjl : j < len := by
    have := (List.getElem?_eq_some_iff.1 hj).1
    simpa using this
   have hp : f j = p := by simpa [List.getElem?_map, hjl] using hj
   subst hp
   obtain ⟨cs', h1, h2, _⟩ := hf j hjl
   obtain ⟨_, h3, h4⟩ := World.cells?_some h1
   refine ⟨cs', h3, h2, fun i u hi => ?_⟩
   have hil : i < d.sz := by rw [← h3]; exact (List.getElem?_eq_some_iff.1 hi).1
   rw [← Go.Deep.add_add, h4 i hil, hi]
  ·intro b hb'
   obtain ⟨j, hj, rfl⟩ := List.mem_map.1 hb'
   obtain ⟨_, _, _, h⟩ := hf j (by simpa using hj)
   exact h
theorem OpensL.one {α : Type} {d : Kd α} {Ok : α → Prop} (h : Opens P t d Ok) : OpensL P [t] d Ok := by
 intro H enc w base spare held fuel css hl hx
 match css, hl with
 | [cs], _ =>
  obtain ⟨x, h1⟩ := hx 0 t cs rfl rfl
  obtain ⟨a, h2⟩ := h enc w base spare held fuel cs x h1
  exact ⟨a, by simpa using h2⟩
theorem OpensL.cons {ts : List TypeId} {α β : Type} {d : Kd α} {Ok : α → Prop} {d2 : Kd β} {Ok2 : β → Prop} (h : Opens P t d Ok) (h2 : OpensL P ts d2 Ok2) : OpensL P (t :: ts) (Kd.pair d d2) (fun x => Ok x.1 ∧ Ok2 x.2) := by
 intro H enc w base spare held fuel css hl hx
 match css, hl with
 | cs :: css, hl =>
  obtain ⟨x, h1⟩ := hx 0 t cs rfl rfl
  obtain ⟨a, h3, h4⟩ := h enc w base spare held fuel cs x h1
  obtain ⟨b, h5, h6⟩ := h2 enc w base spare held fuel css (by simpa using hl) (fun j t' cs' hj hj' => hx (j + 1) t' cs' (by simpa using hj) (by simpa using hj'))
  exact ⟨(a, b), ⟨cs, css.flatten, rfl, h3, h5⟩, h4, h6⟩
theorem Opens.iso {α β : Type} {d : Kd α} {Ok : α → Prop} (h : Opens P t d Ok) (f : β → α) (g : α → β) (hfg : ∀ a, f (g a) = a) : Opens P t (Kd.iso d f) (fun b => Ok (f b)) := by
 intro H enc w base spare held fuel cs x hx
 obtain ⟨a, h1, h2⟩ := h enc w base spare held fuel cs x hx
 exact ⟨g a, by show d.K w (f (g a)) cs; rw [hfg]; exact h1, by show Ok (f (g a)); rw [hfg]; exact h2⟩
/-- Cells, cut at the fields. -/
def cuts (cs : List Value) : List Nat → List (List Value)
 | [] => []
 | n :: ns => cs.take n :: cuts (cs.drop n) ns
theorem cuts_len : ∀ (cs : List Value) (ns : List Nat), (cuts cs ns).length = ns.length
 | _, [] => rfl
 | cs, n :: ns => by simp [cuts, cuts_len]
theorem cuts_flat : ∀ (cs : List Value) (ns : List Nat), cs.length = ns.sum → (cuts cs ns).flatten = cs
 | cs, [], h => by
  have : cs = [] := List.length_eq_zero_iff.1 (by simpa using h)
  simp [cuts, this]
 | cs, n :: ns, h => by
  simp only [List.sum_cons] at h
  simp only [cuts, List.flatten_cons]
  rw [cuts_flat (cs.drop n) ns (by rw [List.length_drop]; omega), List.take_append_drop]
theorem cuts_get : ∀ (cs : List Value) (ns : List Nat) (j : Nat) (n : Nat), ns[j]? = some n → (cuts cs ns)[j]? = some ((cs.drop (ns.take j).sum).take n)
 | _, [], _, _, h => by simp at h
 | cs, m :: ns, 0, n, h => by
  have : m = n := by simpa using h
  subst this
  simp [cuts]
 | cs, m :: ns, j + 1, n, h => by
  have := cuts_get (cs.drop m) ns j n (by simpa using h)
  simp only [cuts, List.getElem?_cons_succ, this, List.take_succ_cons, List.sum_cons, List.drop_drop]
theorem Opens.struct {α : Type} {d : Kd α} {Ok : α → Prop} {fs : Array Field} (ts : List TypeId) (ns : List Nat) (ht : P.underlying t = some (.struct fs)) (hts : fs.toList.map (·.type) = ts) (hns : ts.map P.cellsOf = ns) (hof : fs.toList.map (·.offset) = (List.range ns.length).map fun j => (ns.take j).sum) (hC : P.cellsOf t = ns.sum) (h : OpensL P ts d Ok) : Opens P t d Ok := by
 intro H enc w base spare held fuel cs x hx
 obtain ⟨xs, n, _, _, hl, hxs, hf⟩ := DataW.trod_struct ht hx
 have hlen : ts.length = fs.size := by rw [← hts]; simp
 have hlen2 : ns.length = ts.length := by rw [← hns]; simp
 obtain ⟨a, h1, h2⟩ := h enc w base spare held n (cuts cs ns) (by rw [cuts_len, hlen2]) (fun j t' cs' hj hj' => by
  have hjt : j < ts.length := (List.getElem?_eq_some_iff.1 hj).1
  have hjf : fs[j]? = some (fs[j]'(by omega)) := Array.getElem?_eq_getElem (by omega)
  have e1 : (fs[j]'(by omega)).type = t' := by
   have : (fs.toList.map (·.type))[j]? = some t' := by rw [hts]; exact hj
   simpa [List.getElem?_map, hjf] using this
  have e2 : ns[j]? = some (P.cellsOf t') := by rw [← hns, List.getElem?_map, hj]; rfl
  have e3 : (fs[j]'(by omega)).offset = (ns.take j).sum := by
   have : (fs.toList.map (·.offset))[j]? = ((List.range ns.length).map fun j => (ns.take j).sum)[j]? := by rw [hof]
   simpa [List.getElem?_map, hjf, show j < ns.length by omega] using this
  have h3 := hf j _ hjf
  rw [e1, e3] at h3
  rw [cuts_get cs ns j _ e2] at hj'
  injection hj' with hj'
  rw [hj'] at h3
  exact ⟨xs[j]'(by omega), by rw [h3]; exact List.getElem?_eq_getElem (by omega)⟩)
 rw [cuts_flat cs ns (by rw [hl, hC])] at h1
 exact ⟨a, h1, h2⟩
end
end Go.Proofs.Ytmigglldahkngaa.XOpen
end

section
-- PRINTED BY print.sh 35421559b90ae4d0a3588c463048766b98c2df88dd9212a6774a882060cdf62d: not written by this session
-- PRINTED WORDS (module Derived/Print/Sized.lean): go-gate-2's, for the rows of laws over slices: an AI agent of Go's test side, Tue Nov 17 2026; no person has read it. Lean checks it.
namespace Go.Proofs.YtmigglldahkngaaW.PrintWords
open Go.ChangeShapes Go.WideShapes
end Go.Proofs.YtmigglldahkngaaW.PrintWords
end

section
/- rollcallref06's May, walked for the frames that a link tells. -/
namespace Go.Proofs.Ytmigglldahkngaa.XTell
open Go.RowKit Go.Proofs.YtmigglldahkngaaW.PrintWords Go.Proofs.YtmigglldahkngaaW.PrintLast Go.Proofs.YtmigglldahkngaaW.PrintMore Go.Proofs.Ytmigglldahkngaa.PA Go.Proofs.Ytmigglldahkngaa.XMem Go.Proofs.Ytmigglldahkngaa.XSt Go.Proofs.Ytmigglldahkngaa.XKn
open Go.Proofs.Ytmigglldahkngaa.XSum (Se kSe sumB)
open Go.Proofs.Ytmigglldahkngaa.XV17 (mayT refMayT_b oneB refIs_f refMay_f z4)
open Go.Proofs.Ytmigglldahkngaa.XIdent (isB)
open Go.Proofs.Ytmigglldahkngaa.XMay (mayB)
set_option linter.unusedVariables false
set_option linter.unusedSimpArgs false
set_option maxRecDepth 100000
attribute [local go_sem high] eqA32

set_option maxHeartbeats 4000000 in
theorem may06_snap (ok : Nat → Prop) (s : Int) (B : Option Addr) (mc : Nat) (t : List Se) (w0 w : World) (S : Kn ok w0 [] nil tt [V kSe (.slice B t.length mc) t] w) (hs0 : 0 ≤ s) (hs1 : s ≤ 1099511627776) (ht : mayT t = true) :
  Calls Try.prog 30 #[.agg #[.int .i64 3, .int .i64 s, .bool false, .string ⟨#[]⟩, .int .i64 0, .int .i64 0, .int .i64 0, .string ⟨#[]⟩, .int .u64 0, .slice B t.length mc]] w fun e w' => e = .returned (.bool true) ∧ Below w0.heap.size w0 w' := by
 have HT := Aside0.mk (refMayT_b 200 t (by omega))
 rw [ht] at HT
 clear ht
 go_enter Try.func30, Try.ntmps30
 go_upto_region 1 with (fail)
 generalize hg : World.alloc _ _ = w1
 replace S := S.new hg
 clear hg
 generalize w.heap.size = p1 at S ⊢
 replace S : Kn ok w0 [(p1, .cells #[.int .i64 3, .int .i64 s, .bool false, .string ⟨#[]⟩, .int .i64 0, .int .i64 0, .int .i64 0, .string ⟨#[]⟩, .int .u64 0, .slice B t.length mc] TFr (0, 0))] nil tt [V kSe (.slice B t.length mc) t] w1 := S
 have f_0 : w1.cell? ⟨p1, 0, none⟩ = some (.int .i64 3) := S.cell 0 0 rfl rfl
 have f_1 : w1.cell? ⟨p1, 1, none⟩ = some (.int .i64 s) := S.cell 0 1 rfl rfl
 have f_2 : w1.cell? ⟨p1, 2, none⟩ = some (.bool false) := S.cell 0 2 rfl rfl
 have f_3 : w1.cell? ⟨p1, 3, none⟩ = some (.string ⟨#[]⟩) := S.cell 0 3 rfl rfl
 have f_4 : w1.cell? ⟨p1, 4, none⟩ = some (.int .i64 0) := S.cell 0 4 rfl rfl
 have f_5 : w1.cell? ⟨p1, 5, none⟩ = some (.int .i64 0) := S.cell 0 5 rfl rfl
 have f_6 : w1.cell? ⟨p1, 6, none⟩ = some (.int .i64 0) := S.cell 0 6 rfl rfl
 have f_7 : w1.cell? ⟨p1, 7, none⟩ = some (.string ⟨#[]⟩) := S.cell 0 7 rfl rfl
 have f_8 : w1.cell? ⟨p1, 8, none⟩ = some (.int .u64 0) := S.cell 0 8 rfl rfl
 have f_9 : w1.cell? ⟨p1, 9, none⟩ = some (.slice B t.length mc) := S.cell 0 9 rfl rfl
 go_wp2_with fail
 refine (rollcallref05_May.kn 200 HT.out (S.ft 0 rfl)).mono ?_
 rintro e w2 ⟨rfl, hb⟩
 replace S := S.below hb
 clear f_0 f_1 f_2 f_3 f_4 f_5 f_6 f_7 f_8 f_9 hb
 go_wp2
 go_ret
 exact ⟨rfl, S.bel⟩
set_option maxHeartbeats 4000000 in
theorem may06_dig (ok : Nat → Prop) (s m : Int) (B : Option Addr) (mc : Nat) (w0 w : World) (S : Kn ok w0 [] nil tt [] w) (hs0 : 0 ≤ s) (hs1 : s ≤ 1099511627776) :
  Calls Try.prog 30 #[.agg #[.int .i64 2, .int .i64 s, .bool false, .string ⟨#[]⟩, .int .i64 0, .int .i64 0, .int .i64 0, .string ⟨#[]⟩, .int .u64 m, .slice B 0 mc]] w fun e w' => e = .returned (.bool true) ∧ Below w0.heap.size w0 w' := by
 go_enter Try.func30, Try.ntmps30
 go_upto_region 1 with (fail)
 generalize hg : World.alloc _ _ = w1
 replace S := S.new hg
 clear hg
 generalize w.heap.size = p1 at S ⊢
 replace S : Kn ok w0 [(p1, .cells #[.int .i64 2, .int .i64 s, .bool false, .string ⟨#[]⟩, .int .i64 0, .int .i64 0, .int .i64 0, .string ⟨#[]⟩, .int .u64 m, .slice B 0 mc] TFr (0, 0))] nil tt [] w1 := S
 have f_0 : w1.cell? ⟨p1, 0, none⟩ = some (.int .i64 2) := S.cell 0 0 rfl rfl
 have f_1 : w1.cell? ⟨p1, 1, none⟩ = some (.int .i64 s) := S.cell 0 1 rfl rfl
 have f_2 : w1.cell? ⟨p1, 2, none⟩ = some (.bool false) := S.cell 0 2 rfl rfl
 have f_3 : w1.cell? ⟨p1, 3, none⟩ = some (.string ⟨#[]⟩) := S.cell 0 3 rfl rfl
 have f_4 : w1.cell? ⟨p1, 4, none⟩ = some (.int .i64 0) := S.cell 0 4 rfl rfl
 have f_5 : w1.cell? ⟨p1, 5, none⟩ = some (.int .i64 0) := S.cell 0 5 rfl rfl
 have f_6 : w1.cell? ⟨p1, 6, none⟩ = some (.int .i64 0) := S.cell 0 6 rfl rfl
 have f_7 : w1.cell? ⟨p1, 7, none⟩ = some (.string ⟨#[]⟩) := S.cell 0 7 rfl rfl
 have f_8 : w1.cell? ⟨p1, 8, none⟩ = some (.int .u64 m) := S.cell 0 8 rfl rfl
 have f_9 : w1.cell? ⟨p1, 9, none⟩ = some (.slice B 0 mc) := S.cell 0 9 rfl rfl
 go_wp2
 go_ret
 exact ⟨rfl, S.bel⟩
set_option maxHeartbeats 4000000 in
theorem may06_delta (ok : Nat → Prop) (s : Int) (x : Ch) (B : Option Addr) (mc : Nat) (w0 w : World) (S : Kn ok w0 [] nil tt [] w) (hs0 : 0 ≤ s) (hs1 : s ≤ 1099511627776) (hx : oneB x = true) :
  Calls Try.prog 30 #[.agg #[.int .i64 1, .int .i64 s, .bool x.f1, .string x.f0, .int .i64 x.f2.f0, .int .i64 x.f2.f1, .int .i64 x.f2.f2, .string x.f2.f3, .int .u64 0, .slice B 0 mc]] w fun e w' => e = .returned (.bool true) ∧ Below w0.heap.size w0 w' := by
 have h := hx
 unfold oneB at h
 rw [Bool.and_eq_true] at h
 obtain ⟨h1, h2⟩ := h
 have HI := Aside0.mk ((refIs_f 200 x.f0 (by omega)).trans (congrArg some h1))
 have HM := Aside0.mk (refMay_f 200 x.f2.f0 x.f2.f1 x.f2.f2 x.f2.f3 (by omega))
 have H2 := Aside0.mk h2
 clear hx h1 h2
 obtain ⟨n, on, v⟩ := x
 obtain ⟨v0, v1, v2, v3⟩ := v
 dsimp only at HI HM H2 ⊢
 go_enter Try.func30, Try.ntmps30
 go_upto_region 1 with (fail)
 generalize hg : World.alloc _ _ = w1
 replace S := S.new hg
 clear hg
 generalize w.heap.size = p1 at S ⊢
 replace S : Kn ok w0 [(p1, .cells #[.int .i64 1, .int .i64 s, .bool on, .string n, .int .i64 v0, .int .i64 v1, .int .i64 v2, .string v3, .int .u64 0, .slice B 0 mc] TFr (0, 0))] nil tt [] w1 := S
 have f_0 : w1.cell? ⟨p1, 0, none⟩ = some (.int .i64 1) := S.cell 0 0 rfl rfl
 have f_1 : w1.cell? ⟨p1, 1, none⟩ = some (.int .i64 s) := S.cell 0 1 rfl rfl
 have f_2 : w1.cell? ⟨p1, 2, none⟩ = some (.bool on) := S.cell 0 2 rfl rfl
 have f_3 : w1.cell? ⟨p1, 3, none⟩ = some (.string n) := S.cell 0 3 rfl rfl
 have f_4 : w1.cell? ⟨p1, 4, none⟩ = some (.int .i64 v0) := S.cell 0 4 rfl rfl
 have f_5 : w1.cell? ⟨p1, 5, none⟩ = some (.int .i64 v1) := S.cell 0 5 rfl rfl
 have f_6 : w1.cell? ⟨p1, 6, none⟩ = some (.int .i64 v2) := S.cell 0 6 rfl rfl
 have f_7 : w1.cell? ⟨p1, 7, none⟩ = some (.string v3) := S.cell 0 7 rfl rfl
 have f_8 : w1.cell? ⟨p1, 8, none⟩ = some (.int .u64 0) := S.cell 0 8 rfl rfl
 have f_9 : w1.cell? ⟨p1, 9, none⟩ = some (.slice B 0 mc) := S.cell 0 9 rfl rfl
 go_wp2_with fail
 refine (rollcallref03_Is.calls 200 n true _ HI.out).mono ?_
 rintro e w2 ⟨rfl, hb⟩
 replace S := S.below (by first | exact hb | exact hb.below | exact hb.2.below | (obtain ⟨nd, rfl⟩ := hb; exact pw_below_drewN (Below.refl _ _) nd))
 clear f_0 f_1 f_2 f_3 f_4 f_5 f_6 f_7 f_8 f_9 hb
 have f_0 : w2.cell? ⟨p1, 0, none⟩ = some (.int .i64 1) := S.cell 0 0 rfl rfl
 have f_1 : w2.cell? ⟨p1, 1, none⟩ = some (.int .i64 s) := S.cell 0 1 rfl rfl
 have f_2 : w2.cell? ⟨p1, 2, none⟩ = some (.bool on) := S.cell 0 2 rfl rfl
 have f_3 : w2.cell? ⟨p1, 3, none⟩ = some (.string n) := S.cell 0 3 rfl rfl
 have f_4 : w2.cell? ⟨p1, 4, none⟩ = some (.int .i64 v0) := S.cell 0 4 rfl rfl
 have f_5 : w2.cell? ⟨p1, 5, none⟩ = some (.int .i64 v1) := S.cell 0 5 rfl rfl
 have f_6 : w2.cell? ⟨p1, 6, none⟩ = some (.int .i64 v2) := S.cell 0 6 rfl rfl
 have f_7 : w2.cell? ⟨p1, 7, none⟩ = some (.string v3) := S.cell 0 7 rfl rfl
 have f_8 : w2.cell? ⟨p1, 8, none⟩ = some (.int .u64 0) := S.cell 0 8 rfl rfl
 have f_9 : w2.cell? ⟨p1, 9, none⟩ = some (.slice B 0 mc) := S.cell 0 9 rfl rfl
 cases on with
 | true =>
  have h3 : mayB v0 v1 v2 v3 = true := H2.out
  rw [h3] at HM
  clear h3
  go_wp2_with fail
  refine (rollcallref04_May.calls 200 v0 v1 v2 v3 true _ HM.out).mono ?_
  rintro e w3 ⟨rfl, hb⟩
  replace S := S.below (by first | exact hb | exact hb.below)
  clear f_0 f_1 f_2 f_3 f_4 f_5 f_6 f_7 f_8 f_9 hb
  have f_0 : w3.cell? ⟨p1, 0, none⟩ = some (.int .i64 1) := S.cell 0 0 rfl rfl
  have f_1 : w3.cell? ⟨p1, 1, none⟩ = some (.int .i64 s) := S.cell 0 1 rfl rfl
  have f_2 : w3.cell? ⟨p1, 2, none⟩ = some (.bool true) := S.cell 0 2 rfl rfl
  have f_3 : w3.cell? ⟨p1, 3, none⟩ = some (.string n) := S.cell 0 3 rfl rfl
  have f_4 : w3.cell? ⟨p1, 4, none⟩ = some (.int .i64 v0) := S.cell 0 4 rfl rfl
  have f_5 : w3.cell? ⟨p1, 5, none⟩ = some (.int .i64 v1) := S.cell 0 5 rfl rfl
  have f_6 : w3.cell? ⟨p1, 6, none⟩ = some (.int .i64 v2) := S.cell 0 6 rfl rfl
  have f_7 : w3.cell? ⟨p1, 7, none⟩ = some (.string v3) := S.cell 0 7 rfl rfl
  have f_8 : w3.cell? ⟨p1, 8, none⟩ = some (.int .u64 0) := S.cell 0 8 rfl rfl
  have f_9 : w3.cell? ⟨p1, 9, none⟩ = some (.slice B 0 mc) := S.cell 0 9 rfl rfl
  go_wp2
  go_ret
  exact ⟨rfl, S.bel⟩
 | false =>
  have h3 : z4 ⟨n, false, ⟨v0, v1, v2, v3⟩⟩ = true := H2.out
  unfold z4 at h3
  simp only [Bool.and_eq_true, beq_iff_eq] at h3
  obtain ⟨e0, e1, e2, e3⟩ := h3
  have e4 : v3 = ⟨#[]⟩ := Go.Proofs.Ytmigglldahkngaa.XGen.toList_inj.1 (e3.trans (by rw [Lib.toList_data]))
  subst e0
  subst e1
  subst e2
  subst e4
  clear e3
  clear f_0 f_1 f_2 f_3 f_4 f_5 f_6 f_7 f_8 f_9
  have f_0 : w2.cell? ⟨p1, 0, none⟩ = some (.int .i64 1) := S.cell 0 0 rfl rfl
  have f_1 : w2.cell? ⟨p1, 1, none⟩ = some (.int .i64 s) := S.cell 0 1 rfl rfl
  have f_2 : w2.cell? ⟨p1, 2, none⟩ = some (.bool false) := S.cell 0 2 rfl rfl
  have f_3 : w2.cell? ⟨p1, 3, none⟩ = some (.string n) := S.cell 0 3 rfl rfl
  have f_4 : w2.cell? ⟨p1, 4, none⟩ = some (.int .i64 0) := S.cell 0 4 rfl rfl
  have f_5 : w2.cell? ⟨p1, 5, none⟩ = some (.int .i64 0) := S.cell 0 5 rfl rfl
  have f_6 : w2.cell? ⟨p1, 6, none⟩ = some (.int .i64 0) := S.cell 0 6 rfl rfl
  have f_7 : w2.cell? ⟨p1, 7, none⟩ = some (.string ⟨#[]⟩) := S.cell 0 7 rfl rfl
  have f_8 : w2.cell? ⟨p1, 8, none⟩ = some (.int .u64 0) := S.cell 0 8 rfl rfl
  have f_9 : w2.cell? ⟨p1, 9, none⟩ = some (.slice B 0 mc) := S.cell 0 9 rfl rfl
  go_wp2
  go_ret
  exact ⟨rfl, S.bel⟩
end Go.Proofs.Ytmigglldahkngaa.XTell
end

section
/- The frames that a link tells, in plain lists: what each is, their numbers, and how many there are. -/
namespace Go.Proofs.Ytmigglldahkngaa.XTell
open Go.RowKit Go.Proofs.Ytmigglldahkngaa.PA Go.Proofs.YtmigglldahkngaaW.PrintWords Go.Proofs.YtmigglldahkngaaW.PrintLast Go.Proofs.Ytmigglldahkngaa.XGen
open Go.Proofs.Ytmigglldahkngaa.XV17 (mayT mayK mayQ mayK_iff oneB OneP LV fits_iff)
open Go.Proofs.Ytmigglldahkngaa.XPace (TK Fits lvl tk lvl_le)
open Go.Proofs.Ytmigglldahkngaa.XSum (Se sumB)
set_option linter.unusedVariables false
set_option linter.unusedSimpArgs false
abbrev snapF (s : Int) (t : List Se) : Fr := ⟨3, s, false, ⟨#[]⟩, ⟨0, 0, 0, ⟨#[]⟩⟩, 0, t⟩
abbrev deltaF (s : Int) (x : Ch) : Fr := ⟨1, s, x.f1, x.f0, ⟨x.f2.f0, x.f2.f1, x.f2.f2, x.f2.f3⟩, 0, []⟩
abbrev digF (s : Int) (t : List Se) : Fr := ⟨2, s, false, ⟨#[]⟩, ⟨0, 0, 0, ⟨#[]⟩⟩, sumB t, []⟩
/-- A frame that a link tells. -/
def Shp (t : List Se) (s : Int) (f : Fr) : Prop := f = snapF s t ∨ (∃ x, oneB x = true ∧ f = deltaF s x) ∨ f = digF s t
theorem mayS_one {c0 c1 c2 c3 : Int} {st : St} {x : Ch} {l : List Ch} (hq : st.q.length ≤ 40) (hm : mayS c0 c1 c2 c3 st = true) (e : st.q = x :: l) : oneB x = true := by
 have h := ((mayK_iff _ _ _ _ _ _ _ _ _ _ _).1 hm).2.2.1
 rw [mayQ_iff _ _ _ hq] at h
 exact h.2.2.1 x (by rw [e]; exact List.mem_cons_self)
theorem next_shp {c0 c1 c2 c3 now : Int} {t : List Se} {st : St} {f : Fr} {q' : List Ch} {sn' : Bool} {dg' : Int} (hq : st.q.length ≤ 40) (hm : mayS c0 c1 c2 c3 st = true) (hx : nextP c3 now t st = some (f, q', sn', dg')) :
  Shp t st.s f ∧ (f.f0 = 3 → st.sn = true) ∧ (f.f0 = 2 → q' = [] ∧ sn' = false ∧ dg' = now) := by
 unfold nextP at hx
 split at hx
 ·rename_i e
  simp only [Option.some.injEq, Prod.mk.injEq] at hx
  obtain ⟨rfl, _, _, _⟩ := hx
  exact ⟨.inl rfl, fun _ => e, fun h => absurd h (by simp)⟩
 ·split at hx
  ·rename_i e
   simp only [Option.some.injEq, Prod.mk.injEq] at hx
   obtain ⟨rfl, _, _, _⟩ := hx
   exact ⟨.inr (.inl ⟨_, mayS_one hq hm e, rfl⟩), fun h => absurd h (by simp), fun h => absurd h (by simp)⟩
  ·split at hx
   ·cases hx
   ·simp only [Option.some.injEq, Prod.mk.injEq] at hx
    obtain ⟨rfl, rfl, rfl, rfl⟩ := hx
    exact ⟨.inr (.inr rfl), fun h => absurd h (by simp), fun _ => ⟨rfl, rfl, rfl⟩⟩
theorem emit_end {c0 c1 c2 c3 now : Int} {t : List Se} (h3 : 1 ≤ c3) (k : Nat) (st R : St) (hq : st.q = []) (hs : st.sn = false) (hd : st.dg = now) (h : emitP c0 c1 c2 c3 now t k st = some R) : R = st := by
 cases k with
 | zero => simp [emitP] at h
 | succ k =>
  rw [emitP] at h
  have hx : nextP c3 now t st = none := by
   unfold nextP
   rw [hs, hq, hd]
   simp
   omega
  rw [hx] at h
  split at h
  ·split at h <;> exact (Option.some.inj h).symm
  ·exact (Option.some.inj h).symm
theorem emit_frames {c0 c1 c2 c3 now : Int} {t : List Se} (hn : 0 ≤ now ∧ now ≤ 1099511627776) : ∀ (k : Nat) (st R : St), st.q.length ≤ 40 → mayS c0 c1 c2 c3 st = true → emitP c0 c1 c2 c3 now t k st = some R →
  ∃ gs, R.fs = st.fs ++ gs ∧ ∀ (i : Nat) (h : i < gs.length), Shp t (st.s + i) gs[i] ∧ (gs[i].f0 = 3 → i = 0 ∧ st.sn = true) ∧ (gs[i].f0 = 2 → i + 1 = gs.length) := by
 intro k
 induction k with
 | zero => intro st R _ _ h; simp [emitP] at h
 | succ k ih =>
  intro st R hq hm h
  have hno : ∀ R', st = R' → ∃ gs, R'.fs = st.fs ++ gs ∧ ∀ (i : Nat) (h : i < gs.length), Shp t (st.s + i) gs[i] ∧ (gs[i].f0 = 3 → i = 0 ∧ st.sn = true) ∧ (gs[i].f0 = 2 → i + 1 = gs.length) := fun R' e => ⟨[], by rw [← e]; simp, fun i h => by cases h⟩
  rw [emitP] at h
  by_cases h1 : st.s < 1099511627776
  rotate_left
  ·rw [if_neg h1] at h
   exact hno R (Option.some.inj h)
  rw [if_pos h1] at h
  by_cases h2 : (TK c0 c1 c2 c3 st.tok st.at_ now).2.2 = true
  rotate_left
  ·rw [if_neg h2] at h
   exact hno R (Option.some.inj h)
  rw [if_pos h2] at h
  rcases hx : nextP c3 now t st with _ | ⟨f, q', sn', dg'⟩
  ·rw [hx] at h
   exact hno R (Option.some.inj h)
  ·rw [hx] at h
   have hq' : q'.length ≤ 40 := by
    rcases (next_sn hx).2 with e | ⟨x, e⟩
    ·rw [e]; exact hq
    ·rw [e] at hq; simp at hq; omega
   obtain ⟨gs, e1, e2⟩ := ih _ R hq' (step_may hq hm h1 hn hx (st.fs ++ [f])) h
   obtain ⟨s1, s2, s3⟩ := next_shp hq hm hx
   refine ⟨f :: gs, by rw [e1]; simp, fun i hi => ?_⟩
   cases i with
   | zero =>
    refine ⟨by simpa using s1, fun h0 => ⟨rfl, s2 h0⟩, fun h0 => ?_⟩
    obtain ⟨a1, a2, a3⟩ := s3 h0
    have h3 : 1 ≤ c3 := by
     have := ((mayK_iff _ _ _ _ _ _ _ _ _ _ _).1 hm).1
     unfold OneP at this
     omega
    have := emit_end h3 k _ R a1 a2 a3 h
    rw [this] at e1
    have : gs = [] := by simpa using e1
    rw [this]; rfl
   | succ i =>
    have hi' : i < gs.length := by simpa using hi
    obtain ⟨b1, b2, b3⟩ := e2 i hi'
    have hsn := (next_sn hx).1
    refine ⟨?_, fun h0 => ?_, fun h0 => ?_⟩
    ·have : st.s + ((i + 1 : Nat) : Int) = st.s + 1 + (i : Int) := by omega
     rw [this]
     simpa using b1
    ·have := (b2 (by simpa using h0)).2
     rw [hsn] at this
     cases this
    ·have := b3 (by simpa using h0)
     simp only [List.length_cons]
     omega
theorem lvl_next {c0 c1 c2 c3 t a n : Int} (hf : Fits c0 c1 c2 c3 t a n) (h : (TK c0 c1 c2 c3 t a n).2.2 = true) : LV c0 c1 c2 c3 (TK c0 c1 c2 c3 t a n).1 (TK c0 c1 c2 c3 t a n).2.1 n = LV c0 c1 c2 c3 t a n - 1 ∧ 1 ≤ LV c0 c1 c2 c3 t a n := by
 have hl := lvl_le hf
 have hf2 : Fits c0 c1 c2 c3 (TK c0 c1 c2 c3 t a n).1 (TK c0 c1 c2 c3 t a n).2.1 n := by
  have h1 := (fits_iff _ _ _ _ _ _ _).1 hf
  exact (fits_iff _ _ _ _ _ _ _).2 ⟨TK_one h1.1 h1.2, h1.2⟩
 unfold LV
 rw [if_pos hf, if_pos hf2]
 unfold TK at h ⊢
 rw [if_pos hf] at h ⊢
 by_cases h0 : lvl c1 c2 t a n = 0
 ·rw [if_pos h0] at h; cases h
 ·rw [if_neg h0]
  dsimp only
  have ht : tk (a + tk a n) n = 0 := by unfold tk; split <;> split <;> omega
  refine ⟨?_, by omega⟩
  have : lvl c1 c2 (lvl c1 c2 t a n - 1) (a + tk a n) n = lvl c1 c2 t a n - 1 := by
   generalize lvl c1 c2 t a n = z at hl h0
   unfold lvl
   rw [ht, Int.zero_mul, Int.add_zero]
   unfold mn
   split <;> omega
  rw [this]
theorem tk_level {c0 c1 c2 c3 t a n : Int} (hf : Fits c0 c1 c2 c3 t a n) (h : ¬ (TK c0 c1 c2 c3 t a n).2.2 = true) : LV c0 c1 c2 c3 t a n = 0 := by
 unfold LV
 rw [if_pos hf]
 unfold TK at h
 rw [if_pos hf] at h
 by_cases h0 : lvl c1 c2 t a n = 0
 ·exact h0
 ·rw [if_neg h0] at h; exact absurd rfl h
theorem emit_level {c0 c1 c2 c3 now : Int} {t : List Se} (hn : 0 ≤ now ∧ now ≤ 1099511627776) : ∀ (k : Nat) (st R : St), st.q.length ≤ 40 → mayS c0 c1 c2 c3 st = true → emitP c0 c1 c2 c3 now t k st = some R →
  ((R.fs.length : Int) - st.fs.length ≤ LV c0 c1 c2 c3 st.tok st.at_ now) ∧ ((R.fs.length : Int) - st.fs.length = LV c0 c1 c2 c3 st.tok st.at_ now ∨ ¬ R.s < 1099511627776 ∨ nextP c3 now t R = none) := by
 intro k
 induction k with
 | zero => intro st R _ _ h; simp [emitP] at h
 | succ k ih =>
  intro st R hq hm h
  have hf : Fits c0 c1 c2 c3 st.tok st.at_ now := (fits_iff _ _ _ _ _ _ _).2 ⟨((mayK_iff _ _ _ _ _ _ _ _ _ _ _).1 hm).1, hn⟩
  have h0 : 0 ≤ LV c0 c1 c2 c3 st.tok st.at_ now := by unfold LV; rw [if_pos hf]; exact (lvl_le hf).1
  rw [emitP] at h
  by_cases h1 : st.s < 1099511627776
  rotate_left
  ·rw [if_neg h1] at h
   obtain rfl := Option.some.inj h
   exact ⟨by omega, .inr (.inl h1)⟩
  rw [if_pos h1] at h
  by_cases h2 : (TK c0 c1 c2 c3 st.tok st.at_ now).2.2 = true
  rotate_left
  ·rw [if_neg h2] at h
   obtain rfl := Option.some.inj h
   exact ⟨by omega, .inl (by rw [tk_level hf h2]; omega)⟩
  rw [if_pos h2] at h
  rcases hx : nextP c3 now t st with _ | ⟨f, q', sn', dg'⟩
  ·rw [hx] at h
   obtain rfl := Option.some.inj h
   exact ⟨by omega, .inr (.inr hx)⟩
  ·rw [hx] at h
   have hq' : q'.length ≤ 40 := by
    rcases (next_sn hx).2 with e | ⟨x, e⟩
    ·rw [e]; exact hq
    ·rw [e] at hq; simp at hq; omega
   obtain ⟨a1, a2⟩ := ih _ R hq' (step_may hq hm h1 hn hx (st.fs ++ [f])) h
   obtain ⟨l1, l2⟩ := lvl_next hf h2
   simp only [List.length_append, List.length_cons, List.length_nil] at a1 a2
   rw [l1] at a1 a2
   refine ⟨by omega, ?_⟩
   rcases a2 with a2 | a2
   ·exact .inl (by omega)
   ·exact .inr a2
end Go.Proofs.Ytmigglldahkngaa.XTell
end
