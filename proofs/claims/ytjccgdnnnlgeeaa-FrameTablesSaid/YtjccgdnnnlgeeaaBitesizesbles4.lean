-- Several texts in one, without what the law does not use (wip/tools/bundle.py).
import Derived.Test.YtjccgdnnnlgeeaaBitesizesbles3

section
/- frame.read, walked. -/
namespace Go.Proofs.Ytjccgdnnnlgeeaa.XFr
open Go.RowKit Go.Proofs.YtjccgdnnnlgeeaaW.PrintWords Go.Proofs.YtjccgdnnnlgeeaaW.PrintLast Go.Proofs.YtjccgdnnnlgeeaaW.PrintMore Go.Proofs.Ytjccgdnnnlgeeaa.PA Go.Proofs.Ytjccgdnnnlgeeaa.XMem Go.Proofs.Ytjccgdnnnlgeeaa.XSt Go.Proofs.Ytjccgdnnnlgeeaa.XQuiet Go.Proofs.Ytjccgdnnnlgeeaa.XKn
open Go.Proofs.Ytjccgdnnnlgeeaa.XSum (Se kSe)
open Go.Proofs.Ytjccgdnnnlgeeaa.XV17 (mayT)
open Go.Proofs.Ytjccgdnnnlgeeaa.XV01 (G)
set_option linter.unusedVariables false
set_option linter.unusedSimpArgs false
set_option maxRecDepth 100000

theorem idx1 (w : World) : (Instr.index 65 (.agg kindsV) (.int .i64 1)).run Try.prog w = .ok (.agg #[fu 49, fu 50]) w := by
 have h := Try.underlying65
 have hz := Try.sizeOf64 w
 simp [Instr.index, run_underlying h, asIntOf, go_sem, hz, part]
theorem idx2 (w : World) : (Instr.index 65 (.agg kindsV) (.int .i64 2)).run Try.prog w = .ok (.agg #[fu 51, fu 52]) w := by
 have h := Try.underlying65
 have hz := Try.sizeOf64 w
 simp [Instr.index, run_underlying h, asIntOf, go_sem, hz, part]
theorem idx3 (w : World) : (Instr.index 65 (.agg kindsV) (.int .i64 3)).run Try.prog w = .ok (.agg #[fu 53, fu 55]) w := by
 have h := Try.underlying65
 have hz := Try.sizeOf64 w
 simp [Instr.index, run_underlying h, asIntOf, go_sem, hz, part]
theorem idx4 (w : World) : (Instr.index 65 (.agg kindsV) (.int .i64 4)).run Try.prog w = .ok (.agg #[fu 57, fu 58]) w := by
 have h := Try.underlying65
 have hz := Try.sizeOf64 w
 simp [Instr.index, run_underlying h, asIntOf, go_sem, hz, part]
theorem fld0 (a b : Value) (w : World) : (Instr.field 64 (.agg #[a, b]) 0).run Try.prog w = .ok a w := by
 have h := Try.underlying64
 simp [Instr.field, run_underlying h, go_sem, part, asAgg]
theorem fld1 (a b : Value) (w : World) : (Instr.field 64 (.agg #[a, b]) 1).run Try.prog w = .ok b w := by
 have h := Try.underlying64
 simp [Instr.field, run_underlying h, go_sem, part, asAgg]
attribute [local go_sem] fld0 fld1
attribute [local go_sem] idx1 idx2 idx3 idx4
theorem rdb1 (ok : Nat → Prop) (f : Fr) (p : Nat) (s : ByteArray) (at_ : Int) (hs : s.size ≤ 100000) (h0 : 0 ≤ at_) (h1 : at_ ≤ s.size) (L : List (Nat × Obj)) (u : Value) (U : Ft) (I : List Ft) (w0 w : World) (S : Kn ok w0 ((p, .cells (cF f (.slice none 0 0)) TFr (0, 0)) :: L) u U I w) (h5 : f.f5 = 0) (h6 : f.f6 = []) (h7 : f.f0 = 1) :
  Calls Try.prog 50 #[.pointer (some ⟨p, 0, none⟩), .string s, .int .i64 at_] w fun e w' => ∃ A c, e = .returned (.tuple #[.int .i64 (rdBody f s at_).2.1, .bool (rdBody f s at_).2.2]) ∧ Kn ok w0 ((p, .cells (cF (rdBody f s at_).1 (.slice A (rdBody f s at_).1.f6.length c)) TFr (0, 0)) :: L) u U (V kSe (.slice A (rdBody f s at_).1.f6.length c) (rdBody f s at_).1.f6 :: I) w' := by
 have e : rdBody f s at_ = rdDelta f s at_ := by unfold rdBody; rw [if_pos h7]
 have e6 : (rdDelta f s at_).1.f6 = [] := by unfold rdDelta; split; exact h6; split <;> exact h6
 rw [e, e6]
 refine (rd1 ok f _ p s at_ hs h0 h1 L u U I w0 w S).mono ?_
 rintro e w' ⟨rfl, S⟩
 exact ⟨none, 0, rfl, S.add (f := V kSe (.slice none 0 0) []) (V_any (Kd.V_nil kSe 0 _ 0 _))⟩
theorem rdb2 (ok : Nat → Prop) (f : Fr) (p : Nat) (s : ByteArray) (at_ : Int) (hs : s.size ≤ 100000) (h0 : 0 ≤ at_) (h1 : at_ ≤ s.size) (L : List (Nat × Obj)) (u : Value) (U : Ft) (I : List Ft) (w0 w : World) (S : Kn ok w0 ((p, .cells (cF f (.slice none 0 0)) TFr (0, 0)) :: L) u U I w) (h5 : f.f5 = 0) (h6 : f.f6 = []) (h7 : f.f0 = 2) :
  Calls Try.prog 52 #[.pointer (some ⟨p, 0, none⟩), .string s, .int .i64 at_] w fun e w' => ∃ A c, e = .returned (.tuple #[.int .i64 (rdBody f s at_).2.1, .bool (rdBody f s at_).2.2]) ∧ Kn ok w0 ((p, .cells (cF (rdBody f s at_).1 (.slice A (rdBody f s at_).1.f6.length c)) TFr (0, 0)) :: L) u U (V kSe (.slice A (rdBody f s at_).1.f6.length c) (rdBody f s at_).1.f6 :: I) w' := by
 have e : rdBody f s at_ = (if s.size - at_ < 8 then (f, 0, false) else (⟨f.f0, f.f1, f.f2, f.f3, f.f4, num8 s at_ 8, f.f6⟩, at_ + 8, true)) := by unfold rdBody; rw [if_neg (by omega), if_pos h7]
 refine (rd2 ok f _ p s at_ hs h0 h1 L u U I w0 w S h5).mono ?_
 rintro e1 w' ⟨rfl, S⟩
 rw [e]
 by_cases c : (s.size : Int) - at_ < 8
 ·simp only [if_pos c] at S ⊢
  rw [h6]
  exact ⟨none, 0, by first | rfl | trivial, S.add (f := V kSe (.slice none 0 0) []) (V_any (Kd.V_nil kSe 0 _ 0 _))⟩
 ·simp only [if_neg c] at S ⊢
  rw [h6] at S ⊢
  exact ⟨none, 0, by first | rfl | trivial, S.add (f := V kSe (.slice none 0 0) []) (V_any (Kd.V_nil kSe 0 _ 0 _))⟩
theorem rdb3 (ok : Nat → Prop) (f : Fr) (p : Nat) (s : ByteArray) (at_ : Int) (hs : s.size ≤ 100000) (h0 : 0 ≤ at_) (h1 : at_ ≤ s.size) (L : List (Nat × Obj)) (u : Value) (U : Ft) (I : List Ft) (w0 w : World) (S : Kn ok w0 ((p, .cells (cF f (.slice none 0 0)) TFr (0, 0)) :: L) u U I w) (h5 : f.f5 = 0) (h6 : f.f6 = []) (h7 : f.f0 = 3) :
  Calls Try.prog 55 #[.pointer (some ⟨p, 0, none⟩), .string s, .int .i64 at_] w fun e w' => ∃ A c, e = .returned (.tuple #[.int .i64 (rdBody f s at_).2.1, .bool (rdBody f s at_).2.2]) ∧ Kn ok w0 ((p, .cells (cF (rdBody f s at_).1 (.slice A (rdBody f s at_).1.f6.length c)) TFr (0, 0)) :: L) u U (V kSe (.slice A (rdBody f s at_).1.f6.length c) (rdBody f s at_).1.f6 :: I) w' := by
 have e : rdBody f s at_ = (⟨f.f0, f.f1, f.f2, f.f3, f.f4, f.f5, (TT s at_).1⟩, (TT s at_).2.1, decide ((TT s at_).2.2 = 0)) := by unfold rdBody; rw [if_neg (by omega), if_neg (by omega), if_pos h7]
 refine (rd3 ok f _ p s at_ hs h0 h1 L u U I w0 w S).mono ?_
 rintro e1 w' ⟨A, c, rfl, S⟩
 rw [e]
 exact ⟨A, c, rfl, S⟩
theorem rdb4 (ok : Nat → Prop) (f : Fr) (p : Nat) (s : ByteArray) (at_ : Int) (hs : s.size ≤ 100000) (h0 : 0 ≤ at_) (h1 : at_ ≤ s.size) (L : List (Nat × Obj)) (u : Value) (U : Ft) (I : List Ft) (w0 w : World) (S : Kn ok w0 ((p, .cells (cF f (.slice none 0 0)) TFr (0, 0)) :: L) u U I w) (h5 : f.f5 = 0) (h6 : f.f6 = []) (h7 : f.f0 = 4) :
  Calls Try.prog 58 #[.pointer (some ⟨p, 0, none⟩), .string s, .int .i64 at_] w fun e w' => ∃ A c, e = .returned (.tuple #[.int .i64 (rdBody f s at_).2.1, .bool (rdBody f s at_).2.2]) ∧ Kn ok w0 ((p, .cells (cF (rdBody f s at_).1 (.slice A (rdBody f s at_).1.f6.length c)) TFr (0, 0)) :: L) u U (V kSe (.slice A (rdBody f s at_).1.f6.length c) (rdBody f s at_).1.f6 :: I) w' := by
 have e : rdBody f s at_ = (f, at_, true) := by unfold rdBody; rw [if_neg (by omega), if_neg (by omega), if_neg (by omega)]
 refine (rd4 ok f _ p s at_ hs h0 h1 L u U I w0 w S).mono ?_
 rintro e1 w' ⟨rfl, S⟩
 rw [e, h6]
 exact ⟨none, 0, rfl, S.add (f := V kSe (.slice none 0 0) []) (V_any (Kd.V_nil kSe 0 _ 0 _))⟩
theorem rdBody_kind (f : Fr) (s : ByteArray) (p : Int) : (rdBody f s p).1.f0 = f.f0 := by
 unfold rdBody rdDelta
 split
 ·split
  ·rfl
  ·split <;> rfl
 ·split
  ·split <;> rfl
  ·split <;> rfl
set_option maxHeartbeats 8000000 in
theorem read_k1 (ok : Nat → Prop) (s : ByteArray) (hs : s.size ≤ 100000) (w0 w : World) (S : Kn ok w0 [] nil tt [] w) (n q : Int) (hx : ∀ h : 0 < s.size, ((s[0]'h).toNat : Int) = 1) (HG : Aside0 (∀ w : World, Calls Try.prog 42 #[.string s, .int .i64 1] w fun e w' => e = .returned (.tuple #[.int .u64 n, .int .i64 q, .int .i64 0]) ∧ Below w.heap.size w w')) (cb : (s.toList == ([] : List UInt8)) = false) (c00 : (0 : Int) < (s.size : Int)) (hq0 : 0 ≤ q) (hq1 : q ≤ s.size) (hwn : IntKind.i64.wrap n = n) (c4b : decide (n > 1099511627776) = false) (c4d : decide (1099511627776 < n) = false) :
  Calls Try.prog 32 #[.string s] w fun e w' => ∃ A c, e = .returned (.tuple #[.agg (cF (rdBody (⟨1, n, false, ⟨#[]⟩, zv, 0, []⟩ : Fr) s q).1 (.slice A (rdBody (⟨1, n, false, ⟨#[]⟩, zv, 0, []⟩ : Fr) s q).1.f6.length c)), .bool ((rdBody (⟨1, n, false, ⟨#[]⟩, zv, 0, []⟩ : Fr) s q).2.2 && decide ((rdBody (⟨1, n, false, ⟨#[]⟩, zv, 0, []⟩ : Fr) s q).2.1 = s.size))]) ∧ (V kSe (.slice A (rdBody (⟨1, n, false, ⟨#[]⟩, zv, 0, []⟩ : Fr) s q).1.f6.length c) (rdBody (⟨1, n, false, ⟨#[]⟩, zv, 0, []⟩ : Fr) s q).1.f6).P w' (fun k => ok k ∨ w0.heap.size ≤ k) ∧ Below w0.heap.size w0 w' := by
 have HRB := Aside0.mk (fun (L : List (Nat × Obj)) (p : Nat) (z : World) (S : Kn ok w0 ((p, .cells (cF (⟨1, n, false, ⟨#[]⟩, zv, 0, []⟩ : Fr) (.slice none 0 0)) TFr (0, 0)) :: L) nil tt [] z) => rdb1 ok (⟨1, n, false, ⟨#[]⟩, zv, 0, []⟩ : Fr) p s q hs hq0 hq1 L nil tt [] w0 z S rfl rfl rfl)
 have hg0 : (rdBody (⟨1, n, false, ⟨#[]⟩, zv, 0, []⟩ : Fr) s q).1.f0 = 1 := rdBody_kind (⟨1, n, false, ⟨#[]⟩, zv, 0, []⟩ : Fr) s q
 generalize rdBody (⟨1, n, false, ⟨#[]⟩, zv, 0, []⟩ : Fr) s q = rb at HRB hg0 ⊢
 obtain ⟨g, tq, is⟩ := rb
 dsimp only at HRB hg0 ⊢
 have HG0 := Aside0.mk hg0
 clear hg0
 go_enter Try.func32, Try.ntmps32
 go_upto_region 1 with (fail)
 generalize hg : World.alloc _ _ = w1
 replace S := S.new hg
 clear hg
 generalize w.heap.size = p2 at S ⊢
 replace S : Kn ok w0 [(p2, .cells #[.int .i64 0, .int .i64 0, .bool false, .string ⟨#[]⟩, .int .i64 0, .int .i64 0, .int .i64 0, .string ⟨#[]⟩, .int .u64 0, .slice none 0 0] TFr (0, 0))] nil tt [] w1 := S
 go_wp2_with fail
 refine (HG.out _).mono ?_
 rintro e w2 ⟨rfl, hb⟩
 replace S := S.below hb
 clear hb HG
 go_upto_region 7 with (fail)
 generalize hg : World.alloc _ _ = w3
 replace S := S.new hg
 clear hg
 generalize w2.heap.size = p7 at S ⊢
 replace S : Kn ok w0 [(p7, .cells #[.int .i64 1, .int .i64 n, .bool false, .string ⟨#[]⟩, .int .i64 0, .int .i64 0, .int .i64 0, .string ⟨#[]⟩, .int .u64 0, .slice none 0 0] TFr (0, 0)), (p2, .cells #[.int .i64 0, .int .i64 0, .bool false, .string ⟨#[]⟩, .int .i64 0, .int .i64 0, .int .i64 0, .string ⟨#[]⟩, .int .u64 0, .slice none 0 0] TFr (0, 0))] nil tt [] w3 := S
 have hu := Try.underlying64
 have hcell : ∀ w' : World, Below w3.heap.size w3 w' → w'.cell? ⟨p7, 0, none⟩ = some (.int .i64 1) := fun w' hb => (S.below hb).cell 0 0 rfl rfl
 have HS := Aside0.mk S
 clear S
 go_cut [8, 9] (fun v8 v9 wx => ∃ A c, v8 = .int .i64 tq ∧ v9 = .bool is ∧ Aside0 (Kn ok w0 [(p7, .cells (cF g (.slice A g.f6.length c)) TFr (0, 0)), (p2, .cells #[.int .i64 0, .int .i64 0, .bool false, .string ⟨#[]⟩, .int .i64 0, .int .i64 0, .int .i64 0, .string ⟨#[]⟩, .int .u64 0, .slice none 0 0] TFr (0, 0))] nil tt [V kSe (.slice A g.f6.length c) g.f6] wx))
 case first =>
  go_region_held3 (fun w' => w'.cell? ⟨p7, 0, none⟩ = some (.int .i64 1)) (first | (have h0_ : _ = some (Value.int .i64 g.f0) := S.cell 0 0 rfl rfl; rw [HG0.out] at h0_; exact h0_) | exact hcell _ (by with_reducible repeat (first | assumption | apply below_alloc | apply below_drew1 | exact Below.refl _ _))) (first | (go_at_call 38; (with_reducible refine (kinds_calls _).mono ?_); rintro e zw1 ⟨rfl, hb⟩; have hb1 := below_step (show Below w3.heap.size w3 _ from (by with_reducible repeat (first | assumption | apply below_alloc | apply below_drew1 | exact Below.refl _ _))) hb; clear hb) | (go_at_call 50; (with_reducible refine (HRB.out _ p7 _ (HS.out.below (by with_reducible repeat (first | assumption | apply below_alloc | apply below_drew1 | exact Below.refl _ _)))).mono ?_); rintro e zw2 ⟨A, c, rfl, S⟩))
  all_goals (go_wp2_with fail; go_meet; exact ⟨A, c, rfl, rfl, ⟨S⟩⟩)
 case rest =>
  obtain ⟨A, c, rfl, rfl, hK⟩ := hcut
  have S := hK.out
  clear hK HS HRB hcell hu
  replace S : Kn ok w0 [(p7, .cells #[.int .i64 g.f0, .int .i64 g.f1, .bool g.f2, .string g.f3, .int .i64 g.f4.f0, .int .i64 g.f4.f1, .int .i64 g.f4.f2, .string g.f4.f3, .int .u64 g.f5, .slice A g.f6.length c] TFr (0, 0)), (p2, .cells #[.int .i64 0, .int .i64 0, .bool false, .string ⟨#[]⟩, .int .i64 0, .int .i64 0, .int .i64 0, .string ⟨#[]⟩, .int .u64 0, .slice none 0 0] TFr (0, 0))] nil tt [V kSe (.slice A g.f6.length c) g.f6] wc := S
  have f_0 : wc.cell? ⟨p7, 0, none⟩ = some (.int .i64 g.f0) := S.cell 0 0 rfl rfl
  have f_1 : wc.cell? ⟨p7, 1, none⟩ = some (.int .i64 g.f1) := S.cell 0 1 rfl rfl
  have f_2 : wc.cell? ⟨p7, 2, none⟩ = some (.bool g.f2) := S.cell 0 2 rfl rfl
  have f_3 : wc.cell? ⟨p7, 3, none⟩ = some (.string g.f3) := S.cell 0 3 rfl rfl
  have f_4 : wc.cell? ⟨p7, 4, none⟩ = some (.int .i64 g.f4.f0) := S.cell 0 4 rfl rfl
  have f_5 : wc.cell? ⟨p7, 5, none⟩ = some (.int .i64 g.f4.f1) := S.cell 0 5 rfl rfl
  have f_6 : wc.cell? ⟨p7, 6, none⟩ = some (.int .i64 g.f4.f2) := S.cell 0 6 rfl rfl
  have f_7 : wc.cell? ⟨p7, 7, none⟩ = some (.string g.f4.f3) := S.cell 0 7 rfl rfl
  have f_8 : wc.cell? ⟨p7, 8, none⟩ = some (.int .u64 g.f5) := S.cell 0 8 rfl rfl
  have f_9 : wc.cell? ⟨p7, 9, none⟩ = some (.slice A g.f6.length c) := S.cell 0 9 rfl rfl
  have r_0 : wc.cell? ⟨p2, 0, none⟩ = some (.int .i64 0) := S.cell 1 0 rfl rfl
  have zr_0 : wc.frozen? ⟨p2, 0, none⟩ = false := S.frozen 1 0 rfl
  have r_1 : wc.cell? ⟨p2, 1, none⟩ = some (.int .i64 0) := S.cell 1 1 rfl rfl
  have zr_1 : wc.frozen? ⟨p2, 1, none⟩ = false := S.frozen 1 1 rfl
  have r_2 : wc.cell? ⟨p2, 2, none⟩ = some (.bool false) := S.cell 1 2 rfl rfl
  have zr_2 : wc.frozen? ⟨p2, 2, none⟩ = false := S.frozen 1 2 rfl
  have r_3 : wc.cell? ⟨p2, 3, none⟩ = some (.string ⟨#[]⟩) := S.cell 1 3 rfl rfl
  have zr_3 : wc.frozen? ⟨p2, 3, none⟩ = false := S.frozen 1 3 rfl
  have r_4 : wc.cell? ⟨p2, 4, none⟩ = some (.int .i64 0) := S.cell 1 4 rfl rfl
  have zr_4 : wc.frozen? ⟨p2, 4, none⟩ = false := S.frozen 1 4 rfl
  have r_5 : wc.cell? ⟨p2, 5, none⟩ = some (.int .i64 0) := S.cell 1 5 rfl rfl
  have zr_5 : wc.frozen? ⟨p2, 5, none⟩ = false := S.frozen 1 5 rfl
  have r_6 : wc.cell? ⟨p2, 6, none⟩ = some (.int .i64 0) := S.cell 1 6 rfl rfl
  have zr_6 : wc.frozen? ⟨p2, 6, none⟩ = false := S.frozen 1 6 rfl
  have r_7 : wc.cell? ⟨p2, 7, none⟩ = some (.string ⟨#[]⟩) := S.cell 1 7 rfl rfl
  have zr_7 : wc.frozen? ⟨p2, 7, none⟩ = false := S.frozen 1 7 rfl
  have r_8 : wc.cell? ⟨p2, 8, none⟩ = some (.int .u64 0) := S.cell 1 8 rfl rfl
  have zr_8 : wc.frozen? ⟨p2, 8, none⟩ = false := S.frozen 1 8 rfl
  have r_9 : wc.cell? ⟨p2, 9, none⟩ = some (.slice none 0 0) := S.cell 1 9 rfl rfl
  have zr_9 : wc.frozen? ⟨p2, 9, none⟩ = false := S.frozen 1 9 rfl
  have hbq1 : (tq == (s.size : Int)) = decide (tq = (s.size : Int)) := rfl
  cases is with
  | true =>
   go_wp2
   clear f_0 f_1 f_2 f_3 f_4 f_5 f_6 f_7 f_8 f_9 r_0 zr_0 r_1 zr_1 r_2 zr_2 r_3 zr_3 r_4 zr_4 r_5 zr_5 r_6 zr_6 r_7 zr_7 r_8 zr_8 r_9 zr_9
   generalize hg : World.setCell wc ⟨p2, 0, none⟩ _ = w4
   replace S := S.set 1 hg rfl
   clear hg
   generalize hg : World.setCell w4 ⟨p2, 1, none⟩ _ = w5
   replace S := S.set 1 hg rfl
   clear hg
   generalize hg : World.setCell w5 ⟨p2, 2, none⟩ _ = w6
   replace S := S.set 1 hg rfl
   clear hg
   replace S : Kn ok w0 [(p7, .cells #[.int .i64 g.f0, .int .i64 g.f1, .bool g.f2, .string g.f3, .int .i64 g.f4.f0, .int .i64 g.f4.f1, .int .i64 g.f4.f2, .string g.f4.f3, .int .u64 g.f5, .slice A g.f6.length c] TFr (0, 0)), (p2, .cells #[.int .i64 g.f0, .int .i64 g.f1, .bool g.f2, .string ⟨#[]⟩, .int .i64 0, .int .i64 0, .int .i64 0, .string ⟨#[]⟩, .int .u64 0, .slice none 0 0] TFr (0, 0))] nil tt [V kSe (.slice A g.f6.length c) g.f6] w6 := S
   generalize hg : World.setCell w6 ⟨p2, 3, none⟩ _ = w7
   replace S := S.set 1 hg rfl
   clear hg
   generalize hg : World.setCell w7 ⟨p2, 4, none⟩ _ = w8
   replace S := S.set 1 hg rfl
   clear hg
   generalize hg : World.setCell w8 ⟨p2, 5, none⟩ _ = w9
   replace S := S.set 1 hg rfl
   clear hg
   replace S : Kn ok w0 [(p7, .cells #[.int .i64 g.f0, .int .i64 g.f1, .bool g.f2, .string g.f3, .int .i64 g.f4.f0, .int .i64 g.f4.f1, .int .i64 g.f4.f2, .string g.f4.f3, .int .u64 g.f5, .slice A g.f6.length c] TFr (0, 0)), (p2, .cells #[.int .i64 g.f0, .int .i64 g.f1, .bool g.f2, .string g.f3, .int .i64 g.f4.f0, .int .i64 g.f4.f1, .int .i64 0, .string ⟨#[]⟩, .int .u64 0, .slice none 0 0] TFr (0, 0))] nil tt [V kSe (.slice A g.f6.length c) g.f6] w9 := S
   generalize hg : World.setCell w9 ⟨p2, 6, none⟩ _ = w10
   replace S := S.set 1 hg rfl
   clear hg
   generalize hg : World.setCell w10 ⟨p2, 7, none⟩ _ = w11
   replace S := S.set 1 hg rfl
   clear hg
   generalize hg : World.setCell w11 ⟨p2, 8, none⟩ _ = w12
   replace S := S.set 1 hg rfl
   clear hg
   replace S : Kn ok w0 [(p7, .cells #[.int .i64 g.f0, .int .i64 g.f1, .bool g.f2, .string g.f3, .int .i64 g.f4.f0, .int .i64 g.f4.f1, .int .i64 g.f4.f2, .string g.f4.f3, .int .u64 g.f5, .slice A g.f6.length c] TFr (0, 0)), (p2, .cells #[.int .i64 g.f0, .int .i64 g.f1, .bool g.f2, .string g.f3, .int .i64 g.f4.f0, .int .i64 g.f4.f1, .int .i64 g.f4.f2, .string g.f4.f3, .int .u64 g.f5, .slice none 0 0] TFr (0, 0))] nil tt [V kSe (.slice A g.f6.length c) g.f6] w12 := S
   generalize hg : World.setCell w12 ⟨p2, 9, none⟩ _ = w13
   replace S := S.set 1 hg rfl
   clear hg
   replace S : Kn ok w0 [(p7, .cells #[.int .i64 g.f0, .int .i64 g.f1, .bool g.f2, .string g.f3, .int .i64 g.f4.f0, .int .i64 g.f4.f1, .int .i64 g.f4.f2, .string g.f4.f3, .int .u64 g.f5, .slice A g.f6.length c] TFr (0, 0)), (p2, .cells #[.int .i64 g.f0, .int .i64 g.f1, .bool g.f2, .string g.f3, .int .i64 g.f4.f0, .int .i64 g.f4.f1, .int .i64 g.f4.f2, .string g.f4.f3, .int .u64 g.f5, .slice A g.f6.length c] TFr (0, 0))] nil tt [V kSe (.slice A g.f6.length c) g.f6] w13 := S
   have b6 := S.get 1 rfl
   have hV := S.out 0 rfl
   have hBe := S.bel
   clear S
   refine bodyPost_ret (results_ct rfl _ _ p2 TFr #[.int .i64 g.f0, .int .i64 g.f1, .bool g.f2, .string g.f3, .int .i64 g.f4.f0, .int .i64 g.f4.f1, .int .i64 g.f4.f2, .string g.f4.f3, .int .u64 g.f5, .slice A g.f6.length c] (0, 0) _ rfl b6 Try.underlying27 rfl (by kernel_rfl)) rfl ?_
   exact ⟨A, c, rfl, hV, hBe⟩
  | false =>
   go_wp2
   clear f_0 f_1 f_2 f_3 f_4 f_5 f_6 f_7 f_8 f_9 r_0 zr_0 r_1 zr_1 r_2 zr_2 r_3 zr_3 r_4 zr_4 r_5 zr_5 r_6 zr_6 r_7 zr_7 r_8 zr_8 r_9 zr_9
   generalize hg : World.setCell wc ⟨p2, 0, none⟩ _ = w4
   replace S := S.set 1 hg rfl
   clear hg
   generalize hg : World.setCell w4 ⟨p2, 1, none⟩ _ = w5
   replace S := S.set 1 hg rfl
   clear hg
   generalize hg : World.setCell w5 ⟨p2, 2, none⟩ _ = w6
   replace S := S.set 1 hg rfl
   clear hg
   replace S : Kn ok w0 [(p7, .cells #[.int .i64 g.f0, .int .i64 g.f1, .bool g.f2, .string g.f3, .int .i64 g.f4.f0, .int .i64 g.f4.f1, .int .i64 g.f4.f2, .string g.f4.f3, .int .u64 g.f5, .slice A g.f6.length c] TFr (0, 0)), (p2, .cells #[.int .i64 g.f0, .int .i64 g.f1, .bool g.f2, .string ⟨#[]⟩, .int .i64 0, .int .i64 0, .int .i64 0, .string ⟨#[]⟩, .int .u64 0, .slice none 0 0] TFr (0, 0))] nil tt [V kSe (.slice A g.f6.length c) g.f6] w6 := S
   generalize hg : World.setCell w6 ⟨p2, 3, none⟩ _ = w7
   replace S := S.set 1 hg rfl
   clear hg
   generalize hg : World.setCell w7 ⟨p2, 4, none⟩ _ = w8
   replace S := S.set 1 hg rfl
   clear hg
   generalize hg : World.setCell w8 ⟨p2, 5, none⟩ _ = w9
   replace S := S.set 1 hg rfl
   clear hg
   replace S : Kn ok w0 [(p7, .cells #[.int .i64 g.f0, .int .i64 g.f1, .bool g.f2, .string g.f3, .int .i64 g.f4.f0, .int .i64 g.f4.f1, .int .i64 g.f4.f2, .string g.f4.f3, .int .u64 g.f5, .slice A g.f6.length c] TFr (0, 0)), (p2, .cells #[.int .i64 g.f0, .int .i64 g.f1, .bool g.f2, .string g.f3, .int .i64 g.f4.f0, .int .i64 g.f4.f1, .int .i64 0, .string ⟨#[]⟩, .int .u64 0, .slice none 0 0] TFr (0, 0))] nil tt [V kSe (.slice A g.f6.length c) g.f6] w9 := S
   generalize hg : World.setCell w9 ⟨p2, 6, none⟩ _ = w10
   replace S := S.set 1 hg rfl
   clear hg
   generalize hg : World.setCell w10 ⟨p2, 7, none⟩ _ = w11
   replace S := S.set 1 hg rfl
   clear hg
   generalize hg : World.setCell w11 ⟨p2, 8, none⟩ _ = w12
   replace S := S.set 1 hg rfl
   clear hg
   replace S : Kn ok w0 [(p7, .cells #[.int .i64 g.f0, .int .i64 g.f1, .bool g.f2, .string g.f3, .int .i64 g.f4.f0, .int .i64 g.f4.f1, .int .i64 g.f4.f2, .string g.f4.f3, .int .u64 g.f5, .slice A g.f6.length c] TFr (0, 0)), (p2, .cells #[.int .i64 g.f0, .int .i64 g.f1, .bool g.f2, .string g.f3, .int .i64 g.f4.f0, .int .i64 g.f4.f1, .int .i64 g.f4.f2, .string g.f4.f3, .int .u64 g.f5, .slice none 0 0] TFr (0, 0))] nil tt [V kSe (.slice A g.f6.length c) g.f6] w12 := S
   generalize hg : World.setCell w12 ⟨p2, 9, none⟩ _ = w13
   replace S := S.set 1 hg rfl
   clear hg
   replace S : Kn ok w0 [(p7, .cells #[.int .i64 g.f0, .int .i64 g.f1, .bool g.f2, .string g.f3, .int .i64 g.f4.f0, .int .i64 g.f4.f1, .int .i64 g.f4.f2, .string g.f4.f3, .int .u64 g.f5, .slice A g.f6.length c] TFr (0, 0)), (p2, .cells #[.int .i64 g.f0, .int .i64 g.f1, .bool g.f2, .string g.f3, .int .i64 g.f4.f0, .int .i64 g.f4.f1, .int .i64 g.f4.f2, .string g.f4.f3, .int .u64 g.f5, .slice A g.f6.length c] TFr (0, 0))] nil tt [V kSe (.slice A g.f6.length c) g.f6] w13 := S
   have b6 := S.get 1 rfl
   have hV := S.out 0 rfl
   have hBe := S.bel
   clear S
   refine bodyPost_ret (results_ct rfl _ _ p2 TFr #[.int .i64 g.f0, .int .i64 g.f1, .bool g.f2, .string g.f3, .int .i64 g.f4.f0, .int .i64 g.f4.f1, .int .i64 g.f4.f2, .string g.f4.f3, .int .u64 g.f5, .slice A g.f6.length c] (0, 0) _ rfl b6 Try.underlying27 rfl (by kernel_rfl)) rfl ?_
   exact ⟨A, c, rfl, hV, hBe⟩
set_option maxHeartbeats 8000000 in
theorem read_k2 (ok : Nat → Prop) (s : ByteArray) (hs : s.size ≤ 100000) (w0 w : World) (S : Kn ok w0 [] nil tt [] w) (n q : Int) (hx : ∀ h : 0 < s.size, ((s[0]'h).toNat : Int) = 2) (HG : Aside0 (∀ w : World, Calls Try.prog 42 #[.string s, .int .i64 1] w fun e w' => e = .returned (.tuple #[.int .u64 n, .int .i64 q, .int .i64 0]) ∧ Below w.heap.size w w')) (cb : (s.toList == ([] : List UInt8)) = false) (c00 : (0 : Int) < (s.size : Int)) (hq0 : 0 ≤ q) (hq1 : q ≤ s.size) (hwn : IntKind.i64.wrap n = n) (c4b : decide (n > 1099511627776) = false) (c4d : decide (1099511627776 < n) = false) :
  Calls Try.prog 32 #[.string s] w fun e w' => ∃ A c, e = .returned (.tuple #[.agg (cF (rdBody (⟨2, n, false, ⟨#[]⟩, zv, 0, []⟩ : Fr) s q).1 (.slice A (rdBody (⟨2, n, false, ⟨#[]⟩, zv, 0, []⟩ : Fr) s q).1.f6.length c)), .bool ((rdBody (⟨2, n, false, ⟨#[]⟩, zv, 0, []⟩ : Fr) s q).2.2 && decide ((rdBody (⟨2, n, false, ⟨#[]⟩, zv, 0, []⟩ : Fr) s q).2.1 = s.size))]) ∧ (V kSe (.slice A (rdBody (⟨2, n, false, ⟨#[]⟩, zv, 0, []⟩ : Fr) s q).1.f6.length c) (rdBody (⟨2, n, false, ⟨#[]⟩, zv, 0, []⟩ : Fr) s q).1.f6).P w' (fun k => ok k ∨ w0.heap.size ≤ k) ∧ Below w0.heap.size w0 w' := by
 have HRB := Aside0.mk (fun (L : List (Nat × Obj)) (p : Nat) (z : World) (S : Kn ok w0 ((p, .cells (cF (⟨2, n, false, ⟨#[]⟩, zv, 0, []⟩ : Fr) (.slice none 0 0)) TFr (0, 0)) :: L) nil tt [] z) => rdb2 ok (⟨2, n, false, ⟨#[]⟩, zv, 0, []⟩ : Fr) p s q hs hq0 hq1 L nil tt [] w0 z S rfl rfl rfl)
 have hg0 : (rdBody (⟨2, n, false, ⟨#[]⟩, zv, 0, []⟩ : Fr) s q).1.f0 = 2 := rdBody_kind (⟨2, n, false, ⟨#[]⟩, zv, 0, []⟩ : Fr) s q
 generalize rdBody (⟨2, n, false, ⟨#[]⟩, zv, 0, []⟩ : Fr) s q = rb at HRB hg0 ⊢
 obtain ⟨g, tq, is⟩ := rb
 dsimp only at HRB hg0 ⊢
 have HG0 := Aside0.mk hg0
 clear hg0
 go_enter Try.func32, Try.ntmps32
 go_upto_region 1 with (fail)
 generalize hg : World.alloc _ _ = w1
 replace S := S.new hg
 clear hg
 generalize w.heap.size = p2 at S ⊢
 replace S : Kn ok w0 [(p2, .cells #[.int .i64 0, .int .i64 0, .bool false, .string ⟨#[]⟩, .int .i64 0, .int .i64 0, .int .i64 0, .string ⟨#[]⟩, .int .u64 0, .slice none 0 0] TFr (0, 0))] nil tt [] w1 := S
 go_wp2_with fail
 refine (HG.out _).mono ?_
 rintro e w2 ⟨rfl, hb⟩
 replace S := S.below hb
 clear hb HG
 go_upto_region 7 with (fail)
 generalize hg : World.alloc _ _ = w3
 replace S := S.new hg
 clear hg
 generalize w2.heap.size = p7 at S ⊢
 replace S : Kn ok w0 [(p7, .cells #[.int .i64 2, .int .i64 n, .bool false, .string ⟨#[]⟩, .int .i64 0, .int .i64 0, .int .i64 0, .string ⟨#[]⟩, .int .u64 0, .slice none 0 0] TFr (0, 0)), (p2, .cells #[.int .i64 0, .int .i64 0, .bool false, .string ⟨#[]⟩, .int .i64 0, .int .i64 0, .int .i64 0, .string ⟨#[]⟩, .int .u64 0, .slice none 0 0] TFr (0, 0))] nil tt [] w3 := S
 have hu := Try.underlying64
 have hcell : ∀ w' : World, Below w3.heap.size w3 w' → w'.cell? ⟨p7, 0, none⟩ = some (.int .i64 2) := fun w' hb => (S.below hb).cell 0 0 rfl rfl
 have HS := Aside0.mk S
 clear S
 go_cut [8, 9] (fun v8 v9 wx => ∃ A c, v8 = .int .i64 tq ∧ v9 = .bool is ∧ Aside0 (Kn ok w0 [(p7, .cells (cF g (.slice A g.f6.length c)) TFr (0, 0)), (p2, .cells #[.int .i64 0, .int .i64 0, .bool false, .string ⟨#[]⟩, .int .i64 0, .int .i64 0, .int .i64 0, .string ⟨#[]⟩, .int .u64 0, .slice none 0 0] TFr (0, 0))] nil tt [V kSe (.slice A g.f6.length c) g.f6] wx))
 case first =>
  go_region_held3 (fun w' => w'.cell? ⟨p7, 0, none⟩ = some (.int .i64 2)) (first | (have h0_ : _ = some (Value.int .i64 g.f0) := S.cell 0 0 rfl rfl; rw [HG0.out] at h0_; exact h0_) | exact hcell _ (by with_reducible repeat (first | assumption | apply below_alloc | apply below_drew1 | exact Below.refl _ _))) (first | (go_at_call 38; (with_reducible refine (kinds_calls _).mono ?_); rintro e zw1 ⟨rfl, hb⟩; have hb1 := below_step (show Below w3.heap.size w3 _ from (by with_reducible repeat (first | assumption | apply below_alloc | apply below_drew1 | exact Below.refl _ _))) hb; clear hb) | (go_at_call 52; (with_reducible refine (HRB.out _ p7 _ (HS.out.below (by with_reducible repeat (first | assumption | apply below_alloc | apply below_drew1 | exact Below.refl _ _)))).mono ?_); rintro e zw2 ⟨A, c, rfl, S⟩))
  all_goals (go_wp2_with fail; go_meet; exact ⟨A, c, rfl, rfl, ⟨S⟩⟩)
 case rest =>
  obtain ⟨A, c, rfl, rfl, hK⟩ := hcut
  have S := hK.out
  clear hK HS HRB hcell hu
  replace S : Kn ok w0 [(p7, .cells #[.int .i64 g.f0, .int .i64 g.f1, .bool g.f2, .string g.f3, .int .i64 g.f4.f0, .int .i64 g.f4.f1, .int .i64 g.f4.f2, .string g.f4.f3, .int .u64 g.f5, .slice A g.f6.length c] TFr (0, 0)), (p2, .cells #[.int .i64 0, .int .i64 0, .bool false, .string ⟨#[]⟩, .int .i64 0, .int .i64 0, .int .i64 0, .string ⟨#[]⟩, .int .u64 0, .slice none 0 0] TFr (0, 0))] nil tt [V kSe (.slice A g.f6.length c) g.f6] wc := S
  have f_0 : wc.cell? ⟨p7, 0, none⟩ = some (.int .i64 g.f0) := S.cell 0 0 rfl rfl
  have f_1 : wc.cell? ⟨p7, 1, none⟩ = some (.int .i64 g.f1) := S.cell 0 1 rfl rfl
  have f_2 : wc.cell? ⟨p7, 2, none⟩ = some (.bool g.f2) := S.cell 0 2 rfl rfl
  have f_3 : wc.cell? ⟨p7, 3, none⟩ = some (.string g.f3) := S.cell 0 3 rfl rfl
  have f_4 : wc.cell? ⟨p7, 4, none⟩ = some (.int .i64 g.f4.f0) := S.cell 0 4 rfl rfl
  have f_5 : wc.cell? ⟨p7, 5, none⟩ = some (.int .i64 g.f4.f1) := S.cell 0 5 rfl rfl
  have f_6 : wc.cell? ⟨p7, 6, none⟩ = some (.int .i64 g.f4.f2) := S.cell 0 6 rfl rfl
  have f_7 : wc.cell? ⟨p7, 7, none⟩ = some (.string g.f4.f3) := S.cell 0 7 rfl rfl
  have f_8 : wc.cell? ⟨p7, 8, none⟩ = some (.int .u64 g.f5) := S.cell 0 8 rfl rfl
  have f_9 : wc.cell? ⟨p7, 9, none⟩ = some (.slice A g.f6.length c) := S.cell 0 9 rfl rfl
  have r_0 : wc.cell? ⟨p2, 0, none⟩ = some (.int .i64 0) := S.cell 1 0 rfl rfl
  have zr_0 : wc.frozen? ⟨p2, 0, none⟩ = false := S.frozen 1 0 rfl
  have r_1 : wc.cell? ⟨p2, 1, none⟩ = some (.int .i64 0) := S.cell 1 1 rfl rfl
  have zr_1 : wc.frozen? ⟨p2, 1, none⟩ = false := S.frozen 1 1 rfl
  have r_2 : wc.cell? ⟨p2, 2, none⟩ = some (.bool false) := S.cell 1 2 rfl rfl
  have zr_2 : wc.frozen? ⟨p2, 2, none⟩ = false := S.frozen 1 2 rfl
  have r_3 : wc.cell? ⟨p2, 3, none⟩ = some (.string ⟨#[]⟩) := S.cell 1 3 rfl rfl
  have zr_3 : wc.frozen? ⟨p2, 3, none⟩ = false := S.frozen 1 3 rfl
  have r_4 : wc.cell? ⟨p2, 4, none⟩ = some (.int .i64 0) := S.cell 1 4 rfl rfl
  have zr_4 : wc.frozen? ⟨p2, 4, none⟩ = false := S.frozen 1 4 rfl
  have r_5 : wc.cell? ⟨p2, 5, none⟩ = some (.int .i64 0) := S.cell 1 5 rfl rfl
  have zr_5 : wc.frozen? ⟨p2, 5, none⟩ = false := S.frozen 1 5 rfl
  have r_6 : wc.cell? ⟨p2, 6, none⟩ = some (.int .i64 0) := S.cell 1 6 rfl rfl
  have zr_6 : wc.frozen? ⟨p2, 6, none⟩ = false := S.frozen 1 6 rfl
  have r_7 : wc.cell? ⟨p2, 7, none⟩ = some (.string ⟨#[]⟩) := S.cell 1 7 rfl rfl
  have zr_7 : wc.frozen? ⟨p2, 7, none⟩ = false := S.frozen 1 7 rfl
  have r_8 : wc.cell? ⟨p2, 8, none⟩ = some (.int .u64 0) := S.cell 1 8 rfl rfl
  have zr_8 : wc.frozen? ⟨p2, 8, none⟩ = false := S.frozen 1 8 rfl
  have r_9 : wc.cell? ⟨p2, 9, none⟩ = some (.slice none 0 0) := S.cell 1 9 rfl rfl
  have zr_9 : wc.frozen? ⟨p2, 9, none⟩ = false := S.frozen 1 9 rfl
  have hbq1 : (tq == (s.size : Int)) = decide (tq = (s.size : Int)) := rfl
  cases is with
  | true =>
   go_wp2
   clear f_0 f_1 f_2 f_3 f_4 f_5 f_6 f_7 f_8 f_9 r_0 zr_0 r_1 zr_1 r_2 zr_2 r_3 zr_3 r_4 zr_4 r_5 zr_5 r_6 zr_6 r_7 zr_7 r_8 zr_8 r_9 zr_9
   generalize hg : World.setCell wc ⟨p2, 0, none⟩ _ = w4
   replace S := S.set 1 hg rfl
   clear hg
   generalize hg : World.setCell w4 ⟨p2, 1, none⟩ _ = w5
   replace S := S.set 1 hg rfl
   clear hg
   generalize hg : World.setCell w5 ⟨p2, 2, none⟩ _ = w6
   replace S := S.set 1 hg rfl
   clear hg
   replace S : Kn ok w0 [(p7, .cells #[.int .i64 g.f0, .int .i64 g.f1, .bool g.f2, .string g.f3, .int .i64 g.f4.f0, .int .i64 g.f4.f1, .int .i64 g.f4.f2, .string g.f4.f3, .int .u64 g.f5, .slice A g.f6.length c] TFr (0, 0)), (p2, .cells #[.int .i64 g.f0, .int .i64 g.f1, .bool g.f2, .string ⟨#[]⟩, .int .i64 0, .int .i64 0, .int .i64 0, .string ⟨#[]⟩, .int .u64 0, .slice none 0 0] TFr (0, 0))] nil tt [V kSe (.slice A g.f6.length c) g.f6] w6 := S
   generalize hg : World.setCell w6 ⟨p2, 3, none⟩ _ = w7
   replace S := S.set 1 hg rfl
   clear hg
   generalize hg : World.setCell w7 ⟨p2, 4, none⟩ _ = w8
   replace S := S.set 1 hg rfl
   clear hg
   generalize hg : World.setCell w8 ⟨p2, 5, none⟩ _ = w9
   replace S := S.set 1 hg rfl
   clear hg
   replace S : Kn ok w0 [(p7, .cells #[.int .i64 g.f0, .int .i64 g.f1, .bool g.f2, .string g.f3, .int .i64 g.f4.f0, .int .i64 g.f4.f1, .int .i64 g.f4.f2, .string g.f4.f3, .int .u64 g.f5, .slice A g.f6.length c] TFr (0, 0)), (p2, .cells #[.int .i64 g.f0, .int .i64 g.f1, .bool g.f2, .string g.f3, .int .i64 g.f4.f0, .int .i64 g.f4.f1, .int .i64 0, .string ⟨#[]⟩, .int .u64 0, .slice none 0 0] TFr (0, 0))] nil tt [V kSe (.slice A g.f6.length c) g.f6] w9 := S
   generalize hg : World.setCell w9 ⟨p2, 6, none⟩ _ = w10
   replace S := S.set 1 hg rfl
   clear hg
   generalize hg : World.setCell w10 ⟨p2, 7, none⟩ _ = w11
   replace S := S.set 1 hg rfl
   clear hg
   generalize hg : World.setCell w11 ⟨p2, 8, none⟩ _ = w12
   replace S := S.set 1 hg rfl
   clear hg
   replace S : Kn ok w0 [(p7, .cells #[.int .i64 g.f0, .int .i64 g.f1, .bool g.f2, .string g.f3, .int .i64 g.f4.f0, .int .i64 g.f4.f1, .int .i64 g.f4.f2, .string g.f4.f3, .int .u64 g.f5, .slice A g.f6.length c] TFr (0, 0)), (p2, .cells #[.int .i64 g.f0, .int .i64 g.f1, .bool g.f2, .string g.f3, .int .i64 g.f4.f0, .int .i64 g.f4.f1, .int .i64 g.f4.f2, .string g.f4.f3, .int .u64 g.f5, .slice none 0 0] TFr (0, 0))] nil tt [V kSe (.slice A g.f6.length c) g.f6] w12 := S
   generalize hg : World.setCell w12 ⟨p2, 9, none⟩ _ = w13
   replace S := S.set 1 hg rfl
   clear hg
   replace S : Kn ok w0 [(p7, .cells #[.int .i64 g.f0, .int .i64 g.f1, .bool g.f2, .string g.f3, .int .i64 g.f4.f0, .int .i64 g.f4.f1, .int .i64 g.f4.f2, .string g.f4.f3, .int .u64 g.f5, .slice A g.f6.length c] TFr (0, 0)), (p2, .cells #[.int .i64 g.f0, .int .i64 g.f1, .bool g.f2, .string g.f3, .int .i64 g.f4.f0, .int .i64 g.f4.f1, .int .i64 g.f4.f2, .string g.f4.f3, .int .u64 g.f5, .slice A g.f6.length c] TFr (0, 0))] nil tt [V kSe (.slice A g.f6.length c) g.f6] w13 := S
   have b6 := S.get 1 rfl
   have hV := S.out 0 rfl
   have hBe := S.bel
   clear S
   refine bodyPost_ret (results_ct rfl _ _ p2 TFr #[.int .i64 g.f0, .int .i64 g.f1, .bool g.f2, .string g.f3, .int .i64 g.f4.f0, .int .i64 g.f4.f1, .int .i64 g.f4.f2, .string g.f4.f3, .int .u64 g.f5, .slice A g.f6.length c] (0, 0) _ rfl b6 Try.underlying27 rfl (by kernel_rfl)) rfl ?_
   exact ⟨A, c, rfl, hV, hBe⟩
  | false =>
   go_wp2
   clear f_0 f_1 f_2 f_3 f_4 f_5 f_6 f_7 f_8 f_9 r_0 zr_0 r_1 zr_1 r_2 zr_2 r_3 zr_3 r_4 zr_4 r_5 zr_5 r_6 zr_6 r_7 zr_7 r_8 zr_8 r_9 zr_9
   generalize hg : World.setCell wc ⟨p2, 0, none⟩ _ = w4
   replace S := S.set 1 hg rfl
   clear hg
   generalize hg : World.setCell w4 ⟨p2, 1, none⟩ _ = w5
   replace S := S.set 1 hg rfl
   clear hg
   generalize hg : World.setCell w5 ⟨p2, 2, none⟩ _ = w6
   replace S := S.set 1 hg rfl
   clear hg
   replace S : Kn ok w0 [(p7, .cells #[.int .i64 g.f0, .int .i64 g.f1, .bool g.f2, .string g.f3, .int .i64 g.f4.f0, .int .i64 g.f4.f1, .int .i64 g.f4.f2, .string g.f4.f3, .int .u64 g.f5, .slice A g.f6.length c] TFr (0, 0)), (p2, .cells #[.int .i64 g.f0, .int .i64 g.f1, .bool g.f2, .string ⟨#[]⟩, .int .i64 0, .int .i64 0, .int .i64 0, .string ⟨#[]⟩, .int .u64 0, .slice none 0 0] TFr (0, 0))] nil tt [V kSe (.slice A g.f6.length c) g.f6] w6 := S
   generalize hg : World.setCell w6 ⟨p2, 3, none⟩ _ = w7
   replace S := S.set 1 hg rfl
   clear hg
   generalize hg : World.setCell w7 ⟨p2, 4, none⟩ _ = w8
   replace S := S.set 1 hg rfl
   clear hg
   generalize hg : World.setCell w8 ⟨p2, 5, none⟩ _ = w9
   replace S := S.set 1 hg rfl
   clear hg
   replace S : Kn ok w0 [(p7, .cells #[.int .i64 g.f0, .int .i64 g.f1, .bool g.f2, .string g.f3, .int .i64 g.f4.f0, .int .i64 g.f4.f1, .int .i64 g.f4.f2, .string g.f4.f3, .int .u64 g.f5, .slice A g.f6.length c] TFr (0, 0)), (p2, .cells #[.int .i64 g.f0, .int .i64 g.f1, .bool g.f2, .string g.f3, .int .i64 g.f4.f0, .int .i64 g.f4.f1, .int .i64 0, .string ⟨#[]⟩, .int .u64 0, .slice none 0 0] TFr (0, 0))] nil tt [V kSe (.slice A g.f6.length c) g.f6] w9 := S
   generalize hg : World.setCell w9 ⟨p2, 6, none⟩ _ = w10
   replace S := S.set 1 hg rfl
   clear hg
   generalize hg : World.setCell w10 ⟨p2, 7, none⟩ _ = w11
   replace S := S.set 1 hg rfl
   clear hg
   generalize hg : World.setCell w11 ⟨p2, 8, none⟩ _ = w12
   replace S := S.set 1 hg rfl
   clear hg
   replace S : Kn ok w0 [(p7, .cells #[.int .i64 g.f0, .int .i64 g.f1, .bool g.f2, .string g.f3, .int .i64 g.f4.f0, .int .i64 g.f4.f1, .int .i64 g.f4.f2, .string g.f4.f3, .int .u64 g.f5, .slice A g.f6.length c] TFr (0, 0)), (p2, .cells #[.int .i64 g.f0, .int .i64 g.f1, .bool g.f2, .string g.f3, .int .i64 g.f4.f0, .int .i64 g.f4.f1, .int .i64 g.f4.f2, .string g.f4.f3, .int .u64 g.f5, .slice none 0 0] TFr (0, 0))] nil tt [V kSe (.slice A g.f6.length c) g.f6] w12 := S
   generalize hg : World.setCell w12 ⟨p2, 9, none⟩ _ = w13
   replace S := S.set 1 hg rfl
   clear hg
   replace S : Kn ok w0 [(p7, .cells #[.int .i64 g.f0, .int .i64 g.f1, .bool g.f2, .string g.f3, .int .i64 g.f4.f0, .int .i64 g.f4.f1, .int .i64 g.f4.f2, .string g.f4.f3, .int .u64 g.f5, .slice A g.f6.length c] TFr (0, 0)), (p2, .cells #[.int .i64 g.f0, .int .i64 g.f1, .bool g.f2, .string g.f3, .int .i64 g.f4.f0, .int .i64 g.f4.f1, .int .i64 g.f4.f2, .string g.f4.f3, .int .u64 g.f5, .slice A g.f6.length c] TFr (0, 0))] nil tt [V kSe (.slice A g.f6.length c) g.f6] w13 := S
   have b6 := S.get 1 rfl
   have hV := S.out 0 rfl
   have hBe := S.bel
   clear S
   refine bodyPost_ret (results_ct rfl _ _ p2 TFr #[.int .i64 g.f0, .int .i64 g.f1, .bool g.f2, .string g.f3, .int .i64 g.f4.f0, .int .i64 g.f4.f1, .int .i64 g.f4.f2, .string g.f4.f3, .int .u64 g.f5, .slice A g.f6.length c] (0, 0) _ rfl b6 Try.underlying27 rfl (by kernel_rfl)) rfl ?_
   exact ⟨A, c, rfl, hV, hBe⟩
set_option maxHeartbeats 8000000 in
theorem read_k3 (ok : Nat → Prop) (s : ByteArray) (hs : s.size ≤ 100000) (w0 w : World) (S : Kn ok w0 [] nil tt [] w) (n q : Int) (hx : ∀ h : 0 < s.size, ((s[0]'h).toNat : Int) = 3) (HG : Aside0 (∀ w : World, Calls Try.prog 42 #[.string s, .int .i64 1] w fun e w' => e = .returned (.tuple #[.int .u64 n, .int .i64 q, .int .i64 0]) ∧ Below w.heap.size w w')) (cb : (s.toList == ([] : List UInt8)) = false) (c00 : (0 : Int) < (s.size : Int)) (hq0 : 0 ≤ q) (hq1 : q ≤ s.size) (hwn : IntKind.i64.wrap n = n) (c4b : decide (n > 1099511627776) = false) (c4d : decide (1099511627776 < n) = false) :
  Calls Try.prog 32 #[.string s] w fun e w' => ∃ A c, e = .returned (.tuple #[.agg (cF (rdBody (⟨3, n, false, ⟨#[]⟩, zv, 0, []⟩ : Fr) s q).1 (.slice A (rdBody (⟨3, n, false, ⟨#[]⟩, zv, 0, []⟩ : Fr) s q).1.f6.length c)), .bool ((rdBody (⟨3, n, false, ⟨#[]⟩, zv, 0, []⟩ : Fr) s q).2.2 && decide ((rdBody (⟨3, n, false, ⟨#[]⟩, zv, 0, []⟩ : Fr) s q).2.1 = s.size))]) ∧ (V kSe (.slice A (rdBody (⟨3, n, false, ⟨#[]⟩, zv, 0, []⟩ : Fr) s q).1.f6.length c) (rdBody (⟨3, n, false, ⟨#[]⟩, zv, 0, []⟩ : Fr) s q).1.f6).P w' (fun k => ok k ∨ w0.heap.size ≤ k) ∧ Below w0.heap.size w0 w' := by
 have HRB := Aside0.mk (fun (L : List (Nat × Obj)) (p : Nat) (z : World) (S : Kn ok w0 ((p, .cells (cF (⟨3, n, false, ⟨#[]⟩, zv, 0, []⟩ : Fr) (.slice none 0 0)) TFr (0, 0)) :: L) nil tt [] z) => rdb3 ok (⟨3, n, false, ⟨#[]⟩, zv, 0, []⟩ : Fr) p s q hs hq0 hq1 L nil tt [] w0 z S rfl rfl rfl)
 have hg0 : (rdBody (⟨3, n, false, ⟨#[]⟩, zv, 0, []⟩ : Fr) s q).1.f0 = 3 := rdBody_kind (⟨3, n, false, ⟨#[]⟩, zv, 0, []⟩ : Fr) s q
 generalize rdBody (⟨3, n, false, ⟨#[]⟩, zv, 0, []⟩ : Fr) s q = rb at HRB hg0 ⊢
 obtain ⟨g, tq, is⟩ := rb
 dsimp only at HRB hg0 ⊢
 have HG0 := Aside0.mk hg0
 clear hg0
 go_enter Try.func32, Try.ntmps32
 go_upto_region 1 with (fail)
 generalize hg : World.alloc _ _ = w1
 replace S := S.new hg
 clear hg
 generalize w.heap.size = p2 at S ⊢
 replace S : Kn ok w0 [(p2, .cells #[.int .i64 0, .int .i64 0, .bool false, .string ⟨#[]⟩, .int .i64 0, .int .i64 0, .int .i64 0, .string ⟨#[]⟩, .int .u64 0, .slice none 0 0] TFr (0, 0))] nil tt [] w1 := S
 go_wp2_with fail
 refine (HG.out _).mono ?_
 rintro e w2 ⟨rfl, hb⟩
 replace S := S.below hb
 clear hb HG
 go_upto_region 7 with (fail)
 generalize hg : World.alloc _ _ = w3
 replace S := S.new hg
 clear hg
 generalize w2.heap.size = p7 at S ⊢
 replace S : Kn ok w0 [(p7, .cells #[.int .i64 3, .int .i64 n, .bool false, .string ⟨#[]⟩, .int .i64 0, .int .i64 0, .int .i64 0, .string ⟨#[]⟩, .int .u64 0, .slice none 0 0] TFr (0, 0)), (p2, .cells #[.int .i64 0, .int .i64 0, .bool false, .string ⟨#[]⟩, .int .i64 0, .int .i64 0, .int .i64 0, .string ⟨#[]⟩, .int .u64 0, .slice none 0 0] TFr (0, 0))] nil tt [] w3 := S
 have hu := Try.underlying64
 have hcell : ∀ w' : World, Below w3.heap.size w3 w' → w'.cell? ⟨p7, 0, none⟩ = some (.int .i64 3) := fun w' hb => (S.below hb).cell 0 0 rfl rfl
 have HS := Aside0.mk S
 clear S
 go_cut [8, 9] (fun v8 v9 wx => ∃ A c, v8 = .int .i64 tq ∧ v9 = .bool is ∧ Aside0 (Kn ok w0 [(p7, .cells (cF g (.slice A g.f6.length c)) TFr (0, 0)), (p2, .cells #[.int .i64 0, .int .i64 0, .bool false, .string ⟨#[]⟩, .int .i64 0, .int .i64 0, .int .i64 0, .string ⟨#[]⟩, .int .u64 0, .slice none 0 0] TFr (0, 0))] nil tt [V kSe (.slice A g.f6.length c) g.f6] wx))
 case first =>
  go_region_held3 (fun w' => w'.cell? ⟨p7, 0, none⟩ = some (.int .i64 3)) (first | (have h0_ : _ = some (Value.int .i64 g.f0) := S.cell 0 0 rfl rfl; rw [HG0.out] at h0_; exact h0_) | exact hcell _ (by with_reducible repeat (first | assumption | apply below_alloc | apply below_drew1 | exact Below.refl _ _))) (first | (go_at_call 38; (with_reducible refine (kinds_calls _).mono ?_); rintro e zw1 ⟨rfl, hb⟩; have hb1 := below_step (show Below w3.heap.size w3 _ from (by with_reducible repeat (first | assumption | apply below_alloc | apply below_drew1 | exact Below.refl _ _))) hb; clear hb) | (go_at_call 55; (with_reducible refine (HRB.out _ p7 _ (HS.out.below (by with_reducible repeat (first | assumption | apply below_alloc | apply below_drew1 | exact Below.refl _ _)))).mono ?_); rintro e zw2 ⟨A, c, rfl, S⟩))
  all_goals (go_wp2_with fail; go_meet; exact ⟨A, c, rfl, rfl, ⟨S⟩⟩)
 case rest =>
  obtain ⟨A, c, rfl, rfl, hK⟩ := hcut
  have S := hK.out
  clear hK HS HRB hcell hu
  replace S : Kn ok w0 [(p7, .cells #[.int .i64 g.f0, .int .i64 g.f1, .bool g.f2, .string g.f3, .int .i64 g.f4.f0, .int .i64 g.f4.f1, .int .i64 g.f4.f2, .string g.f4.f3, .int .u64 g.f5, .slice A g.f6.length c] TFr (0, 0)), (p2, .cells #[.int .i64 0, .int .i64 0, .bool false, .string ⟨#[]⟩, .int .i64 0, .int .i64 0, .int .i64 0, .string ⟨#[]⟩, .int .u64 0, .slice none 0 0] TFr (0, 0))] nil tt [V kSe (.slice A g.f6.length c) g.f6] wc := S
  have f_0 : wc.cell? ⟨p7, 0, none⟩ = some (.int .i64 g.f0) := S.cell 0 0 rfl rfl
  have f_1 : wc.cell? ⟨p7, 1, none⟩ = some (.int .i64 g.f1) := S.cell 0 1 rfl rfl
  have f_2 : wc.cell? ⟨p7, 2, none⟩ = some (.bool g.f2) := S.cell 0 2 rfl rfl
  have f_3 : wc.cell? ⟨p7, 3, none⟩ = some (.string g.f3) := S.cell 0 3 rfl rfl
  have f_4 : wc.cell? ⟨p7, 4, none⟩ = some (.int .i64 g.f4.f0) := S.cell 0 4 rfl rfl
  have f_5 : wc.cell? ⟨p7, 5, none⟩ = some (.int .i64 g.f4.f1) := S.cell 0 5 rfl rfl
  have f_6 : wc.cell? ⟨p7, 6, none⟩ = some (.int .i64 g.f4.f2) := S.cell 0 6 rfl rfl
  have f_7 : wc.cell? ⟨p7, 7, none⟩ = some (.string g.f4.f3) := S.cell 0 7 rfl rfl
  have f_8 : wc.cell? ⟨p7, 8, none⟩ = some (.int .u64 g.f5) := S.cell 0 8 rfl rfl
  have f_9 : wc.cell? ⟨p7, 9, none⟩ = some (.slice A g.f6.length c) := S.cell 0 9 rfl rfl
  have r_0 : wc.cell? ⟨p2, 0, none⟩ = some (.int .i64 0) := S.cell 1 0 rfl rfl
  have zr_0 : wc.frozen? ⟨p2, 0, none⟩ = false := S.frozen 1 0 rfl
  have r_1 : wc.cell? ⟨p2, 1, none⟩ = some (.int .i64 0) := S.cell 1 1 rfl rfl
  have zr_1 : wc.frozen? ⟨p2, 1, none⟩ = false := S.frozen 1 1 rfl
  have r_2 : wc.cell? ⟨p2, 2, none⟩ = some (.bool false) := S.cell 1 2 rfl rfl
  have zr_2 : wc.frozen? ⟨p2, 2, none⟩ = false := S.frozen 1 2 rfl
  have r_3 : wc.cell? ⟨p2, 3, none⟩ = some (.string ⟨#[]⟩) := S.cell 1 3 rfl rfl
  have zr_3 : wc.frozen? ⟨p2, 3, none⟩ = false := S.frozen 1 3 rfl
  have r_4 : wc.cell? ⟨p2, 4, none⟩ = some (.int .i64 0) := S.cell 1 4 rfl rfl
  have zr_4 : wc.frozen? ⟨p2, 4, none⟩ = false := S.frozen 1 4 rfl
  have r_5 : wc.cell? ⟨p2, 5, none⟩ = some (.int .i64 0) := S.cell 1 5 rfl rfl
  have zr_5 : wc.frozen? ⟨p2, 5, none⟩ = false := S.frozen 1 5 rfl
  have r_6 : wc.cell? ⟨p2, 6, none⟩ = some (.int .i64 0) := S.cell 1 6 rfl rfl
  have zr_6 : wc.frozen? ⟨p2, 6, none⟩ = false := S.frozen 1 6 rfl
  have r_7 : wc.cell? ⟨p2, 7, none⟩ = some (.string ⟨#[]⟩) := S.cell 1 7 rfl rfl
  have zr_7 : wc.frozen? ⟨p2, 7, none⟩ = false := S.frozen 1 7 rfl
  have r_8 : wc.cell? ⟨p2, 8, none⟩ = some (.int .u64 0) := S.cell 1 8 rfl rfl
  have zr_8 : wc.frozen? ⟨p2, 8, none⟩ = false := S.frozen 1 8 rfl
  have r_9 : wc.cell? ⟨p2, 9, none⟩ = some (.slice none 0 0) := S.cell 1 9 rfl rfl
  have zr_9 : wc.frozen? ⟨p2, 9, none⟩ = false := S.frozen 1 9 rfl
  have hbq1 : (tq == (s.size : Int)) = decide (tq = (s.size : Int)) := rfl
  cases is with
  | true =>
   go_wp2
   clear f_0 f_1 f_2 f_3 f_4 f_5 f_6 f_7 f_8 f_9 r_0 zr_0 r_1 zr_1 r_2 zr_2 r_3 zr_3 r_4 zr_4 r_5 zr_5 r_6 zr_6 r_7 zr_7 r_8 zr_8 r_9 zr_9
   generalize hg : World.setCell wc ⟨p2, 0, none⟩ _ = w4
   replace S := S.set 1 hg rfl
   clear hg
   generalize hg : World.setCell w4 ⟨p2, 1, none⟩ _ = w5
   replace S := S.set 1 hg rfl
   clear hg
   generalize hg : World.setCell w5 ⟨p2, 2, none⟩ _ = w6
   replace S := S.set 1 hg rfl
   clear hg
   replace S : Kn ok w0 [(p7, .cells #[.int .i64 g.f0, .int .i64 g.f1, .bool g.f2, .string g.f3, .int .i64 g.f4.f0, .int .i64 g.f4.f1, .int .i64 g.f4.f2, .string g.f4.f3, .int .u64 g.f5, .slice A g.f6.length c] TFr (0, 0)), (p2, .cells #[.int .i64 g.f0, .int .i64 g.f1, .bool g.f2, .string ⟨#[]⟩, .int .i64 0, .int .i64 0, .int .i64 0, .string ⟨#[]⟩, .int .u64 0, .slice none 0 0] TFr (0, 0))] nil tt [V kSe (.slice A g.f6.length c) g.f6] w6 := S
   generalize hg : World.setCell w6 ⟨p2, 3, none⟩ _ = w7
   replace S := S.set 1 hg rfl
   clear hg
   generalize hg : World.setCell w7 ⟨p2, 4, none⟩ _ = w8
   replace S := S.set 1 hg rfl
   clear hg
   generalize hg : World.setCell w8 ⟨p2, 5, none⟩ _ = w9
   replace S := S.set 1 hg rfl
   clear hg
   replace S : Kn ok w0 [(p7, .cells #[.int .i64 g.f0, .int .i64 g.f1, .bool g.f2, .string g.f3, .int .i64 g.f4.f0, .int .i64 g.f4.f1, .int .i64 g.f4.f2, .string g.f4.f3, .int .u64 g.f5, .slice A g.f6.length c] TFr (0, 0)), (p2, .cells #[.int .i64 g.f0, .int .i64 g.f1, .bool g.f2, .string g.f3, .int .i64 g.f4.f0, .int .i64 g.f4.f1, .int .i64 0, .string ⟨#[]⟩, .int .u64 0, .slice none 0 0] TFr (0, 0))] nil tt [V kSe (.slice A g.f6.length c) g.f6] w9 := S
   generalize hg : World.setCell w9 ⟨p2, 6, none⟩ _ = w10
   replace S := S.set 1 hg rfl
   clear hg
   generalize hg : World.setCell w10 ⟨p2, 7, none⟩ _ = w11
   replace S := S.set 1 hg rfl
   clear hg
   generalize hg : World.setCell w11 ⟨p2, 8, none⟩ _ = w12
   replace S := S.set 1 hg rfl
   clear hg
   replace S : Kn ok w0 [(p7, .cells #[.int .i64 g.f0, .int .i64 g.f1, .bool g.f2, .string g.f3, .int .i64 g.f4.f0, .int .i64 g.f4.f1, .int .i64 g.f4.f2, .string g.f4.f3, .int .u64 g.f5, .slice A g.f6.length c] TFr (0, 0)), (p2, .cells #[.int .i64 g.f0, .int .i64 g.f1, .bool g.f2, .string g.f3, .int .i64 g.f4.f0, .int .i64 g.f4.f1, .int .i64 g.f4.f2, .string g.f4.f3, .int .u64 g.f5, .slice none 0 0] TFr (0, 0))] nil tt [V kSe (.slice A g.f6.length c) g.f6] w12 := S
   generalize hg : World.setCell w12 ⟨p2, 9, none⟩ _ = w13
   replace S := S.set 1 hg rfl
   clear hg
   replace S : Kn ok w0 [(p7, .cells #[.int .i64 g.f0, .int .i64 g.f1, .bool g.f2, .string g.f3, .int .i64 g.f4.f0, .int .i64 g.f4.f1, .int .i64 g.f4.f2, .string g.f4.f3, .int .u64 g.f5, .slice A g.f6.length c] TFr (0, 0)), (p2, .cells #[.int .i64 g.f0, .int .i64 g.f1, .bool g.f2, .string g.f3, .int .i64 g.f4.f0, .int .i64 g.f4.f1, .int .i64 g.f4.f2, .string g.f4.f3, .int .u64 g.f5, .slice A g.f6.length c] TFr (0, 0))] nil tt [V kSe (.slice A g.f6.length c) g.f6] w13 := S
   have b6 := S.get 1 rfl
   have hV := S.out 0 rfl
   have hBe := S.bel
   clear S
   refine bodyPost_ret (results_ct rfl _ _ p2 TFr #[.int .i64 g.f0, .int .i64 g.f1, .bool g.f2, .string g.f3, .int .i64 g.f4.f0, .int .i64 g.f4.f1, .int .i64 g.f4.f2, .string g.f4.f3, .int .u64 g.f5, .slice A g.f6.length c] (0, 0) _ rfl b6 Try.underlying27 rfl (by kernel_rfl)) rfl ?_
   exact ⟨A, c, rfl, hV, hBe⟩
  | false =>
   go_wp2
   clear f_0 f_1 f_2 f_3 f_4 f_5 f_6 f_7 f_8 f_9 r_0 zr_0 r_1 zr_1 r_2 zr_2 r_3 zr_3 r_4 zr_4 r_5 zr_5 r_6 zr_6 r_7 zr_7 r_8 zr_8 r_9 zr_9
   generalize hg : World.setCell wc ⟨p2, 0, none⟩ _ = w4
   replace S := S.set 1 hg rfl
   clear hg
   generalize hg : World.setCell w4 ⟨p2, 1, none⟩ _ = w5
   replace S := S.set 1 hg rfl
   clear hg
   generalize hg : World.setCell w5 ⟨p2, 2, none⟩ _ = w6
   replace S := S.set 1 hg rfl
   clear hg
   replace S : Kn ok w0 [(p7, .cells #[.int .i64 g.f0, .int .i64 g.f1, .bool g.f2, .string g.f3, .int .i64 g.f4.f0, .int .i64 g.f4.f1, .int .i64 g.f4.f2, .string g.f4.f3, .int .u64 g.f5, .slice A g.f6.length c] TFr (0, 0)), (p2, .cells #[.int .i64 g.f0, .int .i64 g.f1, .bool g.f2, .string ⟨#[]⟩, .int .i64 0, .int .i64 0, .int .i64 0, .string ⟨#[]⟩, .int .u64 0, .slice none 0 0] TFr (0, 0))] nil tt [V kSe (.slice A g.f6.length c) g.f6] w6 := S
   generalize hg : World.setCell w6 ⟨p2, 3, none⟩ _ = w7
   replace S := S.set 1 hg rfl
   clear hg
   generalize hg : World.setCell w7 ⟨p2, 4, none⟩ _ = w8
   replace S := S.set 1 hg rfl
   clear hg
   generalize hg : World.setCell w8 ⟨p2, 5, none⟩ _ = w9
   replace S := S.set 1 hg rfl
   clear hg
   replace S : Kn ok w0 [(p7, .cells #[.int .i64 g.f0, .int .i64 g.f1, .bool g.f2, .string g.f3, .int .i64 g.f4.f0, .int .i64 g.f4.f1, .int .i64 g.f4.f2, .string g.f4.f3, .int .u64 g.f5, .slice A g.f6.length c] TFr (0, 0)), (p2, .cells #[.int .i64 g.f0, .int .i64 g.f1, .bool g.f2, .string g.f3, .int .i64 g.f4.f0, .int .i64 g.f4.f1, .int .i64 0, .string ⟨#[]⟩, .int .u64 0, .slice none 0 0] TFr (0, 0))] nil tt [V kSe (.slice A g.f6.length c) g.f6] w9 := S
   generalize hg : World.setCell w9 ⟨p2, 6, none⟩ _ = w10
   replace S := S.set 1 hg rfl
   clear hg
   generalize hg : World.setCell w10 ⟨p2, 7, none⟩ _ = w11
   replace S := S.set 1 hg rfl
   clear hg
   generalize hg : World.setCell w11 ⟨p2, 8, none⟩ _ = w12
   replace S := S.set 1 hg rfl
   clear hg
   replace S : Kn ok w0 [(p7, .cells #[.int .i64 g.f0, .int .i64 g.f1, .bool g.f2, .string g.f3, .int .i64 g.f4.f0, .int .i64 g.f4.f1, .int .i64 g.f4.f2, .string g.f4.f3, .int .u64 g.f5, .slice A g.f6.length c] TFr (0, 0)), (p2, .cells #[.int .i64 g.f0, .int .i64 g.f1, .bool g.f2, .string g.f3, .int .i64 g.f4.f0, .int .i64 g.f4.f1, .int .i64 g.f4.f2, .string g.f4.f3, .int .u64 g.f5, .slice none 0 0] TFr (0, 0))] nil tt [V kSe (.slice A g.f6.length c) g.f6] w12 := S
   generalize hg : World.setCell w12 ⟨p2, 9, none⟩ _ = w13
   replace S := S.set 1 hg rfl
   clear hg
   replace S : Kn ok w0 [(p7, .cells #[.int .i64 g.f0, .int .i64 g.f1, .bool g.f2, .string g.f3, .int .i64 g.f4.f0, .int .i64 g.f4.f1, .int .i64 g.f4.f2, .string g.f4.f3, .int .u64 g.f5, .slice A g.f6.length c] TFr (0, 0)), (p2, .cells #[.int .i64 g.f0, .int .i64 g.f1, .bool g.f2, .string g.f3, .int .i64 g.f4.f0, .int .i64 g.f4.f1, .int .i64 g.f4.f2, .string g.f4.f3, .int .u64 g.f5, .slice A g.f6.length c] TFr (0, 0))] nil tt [V kSe (.slice A g.f6.length c) g.f6] w13 := S
   have b6 := S.get 1 rfl
   have hV := S.out 0 rfl
   have hBe := S.bel
   clear S
   refine bodyPost_ret (results_ct rfl _ _ p2 TFr #[.int .i64 g.f0, .int .i64 g.f1, .bool g.f2, .string g.f3, .int .i64 g.f4.f0, .int .i64 g.f4.f1, .int .i64 g.f4.f2, .string g.f4.f3, .int .u64 g.f5, .slice A g.f6.length c] (0, 0) _ rfl b6 Try.underlying27 rfl (by kernel_rfl)) rfl ?_
   exact ⟨A, c, rfl, hV, hBe⟩
set_option maxHeartbeats 8000000 in
theorem read_k4 (ok : Nat → Prop) (s : ByteArray) (hs : s.size ≤ 100000) (w0 w : World) (S : Kn ok w0 [] nil tt [] w) (n q : Int) (hx : ∀ h : 0 < s.size, ((s[0]'h).toNat : Int) = 4) (HG : Aside0 (∀ w : World, Calls Try.prog 42 #[.string s, .int .i64 1] w fun e w' => e = .returned (.tuple #[.int .u64 n, .int .i64 q, .int .i64 0]) ∧ Below w.heap.size w w')) (cb : (s.toList == ([] : List UInt8)) = false) (c00 : (0 : Int) < (s.size : Int)) (hq0 : 0 ≤ q) (hq1 : q ≤ s.size) (hwn : IntKind.i64.wrap n = n) (c4b : decide (n > 1099511627776) = false) (c4d : decide (1099511627776 < n) = false) :
  Calls Try.prog 32 #[.string s] w fun e w' => ∃ A c, e = .returned (.tuple #[.agg (cF (rdBody (⟨4, n, false, ⟨#[]⟩, zv, 0, []⟩ : Fr) s q).1 (.slice A (rdBody (⟨4, n, false, ⟨#[]⟩, zv, 0, []⟩ : Fr) s q).1.f6.length c)), .bool ((rdBody (⟨4, n, false, ⟨#[]⟩, zv, 0, []⟩ : Fr) s q).2.2 && decide ((rdBody (⟨4, n, false, ⟨#[]⟩, zv, 0, []⟩ : Fr) s q).2.1 = s.size))]) ∧ (V kSe (.slice A (rdBody (⟨4, n, false, ⟨#[]⟩, zv, 0, []⟩ : Fr) s q).1.f6.length c) (rdBody (⟨4, n, false, ⟨#[]⟩, zv, 0, []⟩ : Fr) s q).1.f6).P w' (fun k => ok k ∨ w0.heap.size ≤ k) ∧ Below w0.heap.size w0 w' := by
 have HRB := Aside0.mk (fun (L : List (Nat × Obj)) (p : Nat) (z : World) (S : Kn ok w0 ((p, .cells (cF (⟨4, n, false, ⟨#[]⟩, zv, 0, []⟩ : Fr) (.slice none 0 0)) TFr (0, 0)) :: L) nil tt [] z) => rdb4 ok (⟨4, n, false, ⟨#[]⟩, zv, 0, []⟩ : Fr) p s q hs hq0 hq1 L nil tt [] w0 z S rfl rfl rfl)
 have hg0 : (rdBody (⟨4, n, false, ⟨#[]⟩, zv, 0, []⟩ : Fr) s q).1.f0 = 4 := rdBody_kind (⟨4, n, false, ⟨#[]⟩, zv, 0, []⟩ : Fr) s q
 generalize rdBody (⟨4, n, false, ⟨#[]⟩, zv, 0, []⟩ : Fr) s q = rb at HRB hg0 ⊢
 obtain ⟨g, tq, is⟩ := rb
 dsimp only at HRB hg0 ⊢
 have HG0 := Aside0.mk hg0
 clear hg0
 go_enter Try.func32, Try.ntmps32
 go_upto_region 1 with (fail)
 generalize hg : World.alloc _ _ = w1
 replace S := S.new hg
 clear hg
 generalize w.heap.size = p2 at S ⊢
 replace S : Kn ok w0 [(p2, .cells #[.int .i64 0, .int .i64 0, .bool false, .string ⟨#[]⟩, .int .i64 0, .int .i64 0, .int .i64 0, .string ⟨#[]⟩, .int .u64 0, .slice none 0 0] TFr (0, 0))] nil tt [] w1 := S
 go_wp2_with fail
 refine (HG.out _).mono ?_
 rintro e w2 ⟨rfl, hb⟩
 replace S := S.below hb
 clear hb HG
 go_upto_region 7 with (fail)
 generalize hg : World.alloc _ _ = w3
 replace S := S.new hg
 clear hg
 generalize w2.heap.size = p7 at S ⊢
 replace S : Kn ok w0 [(p7, .cells #[.int .i64 4, .int .i64 n, .bool false, .string ⟨#[]⟩, .int .i64 0, .int .i64 0, .int .i64 0, .string ⟨#[]⟩, .int .u64 0, .slice none 0 0] TFr (0, 0)), (p2, .cells #[.int .i64 0, .int .i64 0, .bool false, .string ⟨#[]⟩, .int .i64 0, .int .i64 0, .int .i64 0, .string ⟨#[]⟩, .int .u64 0, .slice none 0 0] TFr (0, 0))] nil tt [] w3 := S
 have hu := Try.underlying64
 have hcell : ∀ w' : World, Below w3.heap.size w3 w' → w'.cell? ⟨p7, 0, none⟩ = some (.int .i64 4) := fun w' hb => (S.below hb).cell 0 0 rfl rfl
 have HS := Aside0.mk S
 clear S
 go_cut [8, 9] (fun v8 v9 wx => ∃ A c, v8 = .int .i64 tq ∧ v9 = .bool is ∧ Aside0 (Kn ok w0 [(p7, .cells (cF g (.slice A g.f6.length c)) TFr (0, 0)), (p2, .cells #[.int .i64 0, .int .i64 0, .bool false, .string ⟨#[]⟩, .int .i64 0, .int .i64 0, .int .i64 0, .string ⟨#[]⟩, .int .u64 0, .slice none 0 0] TFr (0, 0))] nil tt [V kSe (.slice A g.f6.length c) g.f6] wx))
 case first =>
  go_region_held3 (fun w' => w'.cell? ⟨p7, 0, none⟩ = some (.int .i64 4)) (first | (have h0_ : _ = some (Value.int .i64 g.f0) := S.cell 0 0 rfl rfl; rw [HG0.out] at h0_; exact h0_) | exact hcell _ (by with_reducible repeat (first | assumption | apply below_alloc | apply below_drew1 | exact Below.refl _ _))) (first | (go_at_call 38; (with_reducible refine (kinds_calls _).mono ?_); rintro e zw1 ⟨rfl, hb⟩; have hb1 := below_step (show Below w3.heap.size w3 _ from (by with_reducible repeat (first | assumption | apply below_alloc | apply below_drew1 | exact Below.refl _ _))) hb; clear hb) | (go_at_call 58; (with_reducible refine (HRB.out _ p7 _ (HS.out.below (by with_reducible repeat (first | assumption | apply below_alloc | apply below_drew1 | exact Below.refl _ _)))).mono ?_); rintro e zw2 ⟨A, c, rfl, S⟩))
  all_goals (go_wp2_with fail; go_meet; exact ⟨A, c, rfl, rfl, ⟨S⟩⟩)
 case rest =>
  obtain ⟨A, c, rfl, rfl, hK⟩ := hcut
  have S := hK.out
  clear hK HS HRB hcell hu
  replace S : Kn ok w0 [(p7, .cells #[.int .i64 g.f0, .int .i64 g.f1, .bool g.f2, .string g.f3, .int .i64 g.f4.f0, .int .i64 g.f4.f1, .int .i64 g.f4.f2, .string g.f4.f3, .int .u64 g.f5, .slice A g.f6.length c] TFr (0, 0)), (p2, .cells #[.int .i64 0, .int .i64 0, .bool false, .string ⟨#[]⟩, .int .i64 0, .int .i64 0, .int .i64 0, .string ⟨#[]⟩, .int .u64 0, .slice none 0 0] TFr (0, 0))] nil tt [V kSe (.slice A g.f6.length c) g.f6] wc := S
  have f_0 : wc.cell? ⟨p7, 0, none⟩ = some (.int .i64 g.f0) := S.cell 0 0 rfl rfl
  have f_1 : wc.cell? ⟨p7, 1, none⟩ = some (.int .i64 g.f1) := S.cell 0 1 rfl rfl
  have f_2 : wc.cell? ⟨p7, 2, none⟩ = some (.bool g.f2) := S.cell 0 2 rfl rfl
  have f_3 : wc.cell? ⟨p7, 3, none⟩ = some (.string g.f3) := S.cell 0 3 rfl rfl
  have f_4 : wc.cell? ⟨p7, 4, none⟩ = some (.int .i64 g.f4.f0) := S.cell 0 4 rfl rfl
  have f_5 : wc.cell? ⟨p7, 5, none⟩ = some (.int .i64 g.f4.f1) := S.cell 0 5 rfl rfl
  have f_6 : wc.cell? ⟨p7, 6, none⟩ = some (.int .i64 g.f4.f2) := S.cell 0 6 rfl rfl
  have f_7 : wc.cell? ⟨p7, 7, none⟩ = some (.string g.f4.f3) := S.cell 0 7 rfl rfl
  have f_8 : wc.cell? ⟨p7, 8, none⟩ = some (.int .u64 g.f5) := S.cell 0 8 rfl rfl
  have f_9 : wc.cell? ⟨p7, 9, none⟩ = some (.slice A g.f6.length c) := S.cell 0 9 rfl rfl
  have r_0 : wc.cell? ⟨p2, 0, none⟩ = some (.int .i64 0) := S.cell 1 0 rfl rfl
  have zr_0 : wc.frozen? ⟨p2, 0, none⟩ = false := S.frozen 1 0 rfl
  have r_1 : wc.cell? ⟨p2, 1, none⟩ = some (.int .i64 0) := S.cell 1 1 rfl rfl
  have zr_1 : wc.frozen? ⟨p2, 1, none⟩ = false := S.frozen 1 1 rfl
  have r_2 : wc.cell? ⟨p2, 2, none⟩ = some (.bool false) := S.cell 1 2 rfl rfl
  have zr_2 : wc.frozen? ⟨p2, 2, none⟩ = false := S.frozen 1 2 rfl
  have r_3 : wc.cell? ⟨p2, 3, none⟩ = some (.string ⟨#[]⟩) := S.cell 1 3 rfl rfl
  have zr_3 : wc.frozen? ⟨p2, 3, none⟩ = false := S.frozen 1 3 rfl
  have r_4 : wc.cell? ⟨p2, 4, none⟩ = some (.int .i64 0) := S.cell 1 4 rfl rfl
  have zr_4 : wc.frozen? ⟨p2, 4, none⟩ = false := S.frozen 1 4 rfl
  have r_5 : wc.cell? ⟨p2, 5, none⟩ = some (.int .i64 0) := S.cell 1 5 rfl rfl
  have zr_5 : wc.frozen? ⟨p2, 5, none⟩ = false := S.frozen 1 5 rfl
  have r_6 : wc.cell? ⟨p2, 6, none⟩ = some (.int .i64 0) := S.cell 1 6 rfl rfl
  have zr_6 : wc.frozen? ⟨p2, 6, none⟩ = false := S.frozen 1 6 rfl
  have r_7 : wc.cell? ⟨p2, 7, none⟩ = some (.string ⟨#[]⟩) := S.cell 1 7 rfl rfl
  have zr_7 : wc.frozen? ⟨p2, 7, none⟩ = false := S.frozen 1 7 rfl
  have r_8 : wc.cell? ⟨p2, 8, none⟩ = some (.int .u64 0) := S.cell 1 8 rfl rfl
  have zr_8 : wc.frozen? ⟨p2, 8, none⟩ = false := S.frozen 1 8 rfl
  have r_9 : wc.cell? ⟨p2, 9, none⟩ = some (.slice none 0 0) := S.cell 1 9 rfl rfl
  have zr_9 : wc.frozen? ⟨p2, 9, none⟩ = false := S.frozen 1 9 rfl
  have hbq1 : (tq == (s.size : Int)) = decide (tq = (s.size : Int)) := rfl
  cases is with
  | true =>
   go_wp2
   clear f_0 f_1 f_2 f_3 f_4 f_5 f_6 f_7 f_8 f_9 r_0 zr_0 r_1 zr_1 r_2 zr_2 r_3 zr_3 r_4 zr_4 r_5 zr_5 r_6 zr_6 r_7 zr_7 r_8 zr_8 r_9 zr_9
   generalize hg : World.setCell wc ⟨p2, 0, none⟩ _ = w4
   replace S := S.set 1 hg rfl
   clear hg
   generalize hg : World.setCell w4 ⟨p2, 1, none⟩ _ = w5
   replace S := S.set 1 hg rfl
   clear hg
   generalize hg : World.setCell w5 ⟨p2, 2, none⟩ _ = w6
   replace S := S.set 1 hg rfl
   clear hg
   replace S : Kn ok w0 [(p7, .cells #[.int .i64 g.f0, .int .i64 g.f1, .bool g.f2, .string g.f3, .int .i64 g.f4.f0, .int .i64 g.f4.f1, .int .i64 g.f4.f2, .string g.f4.f3, .int .u64 g.f5, .slice A g.f6.length c] TFr (0, 0)), (p2, .cells #[.int .i64 g.f0, .int .i64 g.f1, .bool g.f2, .string ⟨#[]⟩, .int .i64 0, .int .i64 0, .int .i64 0, .string ⟨#[]⟩, .int .u64 0, .slice none 0 0] TFr (0, 0))] nil tt [V kSe (.slice A g.f6.length c) g.f6] w6 := S
   generalize hg : World.setCell w6 ⟨p2, 3, none⟩ _ = w7
   replace S := S.set 1 hg rfl
   clear hg
   generalize hg : World.setCell w7 ⟨p2, 4, none⟩ _ = w8
   replace S := S.set 1 hg rfl
   clear hg
   generalize hg : World.setCell w8 ⟨p2, 5, none⟩ _ = w9
   replace S := S.set 1 hg rfl
   clear hg
   replace S : Kn ok w0 [(p7, .cells #[.int .i64 g.f0, .int .i64 g.f1, .bool g.f2, .string g.f3, .int .i64 g.f4.f0, .int .i64 g.f4.f1, .int .i64 g.f4.f2, .string g.f4.f3, .int .u64 g.f5, .slice A g.f6.length c] TFr (0, 0)), (p2, .cells #[.int .i64 g.f0, .int .i64 g.f1, .bool g.f2, .string g.f3, .int .i64 g.f4.f0, .int .i64 g.f4.f1, .int .i64 0, .string ⟨#[]⟩, .int .u64 0, .slice none 0 0] TFr (0, 0))] nil tt [V kSe (.slice A g.f6.length c) g.f6] w9 := S
   generalize hg : World.setCell w9 ⟨p2, 6, none⟩ _ = w10
   replace S := S.set 1 hg rfl
   clear hg
   generalize hg : World.setCell w10 ⟨p2, 7, none⟩ _ = w11
   replace S := S.set 1 hg rfl
   clear hg
   generalize hg : World.setCell w11 ⟨p2, 8, none⟩ _ = w12
   replace S := S.set 1 hg rfl
   clear hg
   replace S : Kn ok w0 [(p7, .cells #[.int .i64 g.f0, .int .i64 g.f1, .bool g.f2, .string g.f3, .int .i64 g.f4.f0, .int .i64 g.f4.f1, .int .i64 g.f4.f2, .string g.f4.f3, .int .u64 g.f5, .slice A g.f6.length c] TFr (0, 0)), (p2, .cells #[.int .i64 g.f0, .int .i64 g.f1, .bool g.f2, .string g.f3, .int .i64 g.f4.f0, .int .i64 g.f4.f1, .int .i64 g.f4.f2, .string g.f4.f3, .int .u64 g.f5, .slice none 0 0] TFr (0, 0))] nil tt [V kSe (.slice A g.f6.length c) g.f6] w12 := S
   generalize hg : World.setCell w12 ⟨p2, 9, none⟩ _ = w13
   replace S := S.set 1 hg rfl
   clear hg
   replace S : Kn ok w0 [(p7, .cells #[.int .i64 g.f0, .int .i64 g.f1, .bool g.f2, .string g.f3, .int .i64 g.f4.f0, .int .i64 g.f4.f1, .int .i64 g.f4.f2, .string g.f4.f3, .int .u64 g.f5, .slice A g.f6.length c] TFr (0, 0)), (p2, .cells #[.int .i64 g.f0, .int .i64 g.f1, .bool g.f2, .string g.f3, .int .i64 g.f4.f0, .int .i64 g.f4.f1, .int .i64 g.f4.f2, .string g.f4.f3, .int .u64 g.f5, .slice A g.f6.length c] TFr (0, 0))] nil tt [V kSe (.slice A g.f6.length c) g.f6] w13 := S
   have b6 := S.get 1 rfl
   have hV := S.out 0 rfl
   have hBe := S.bel
   clear S
   refine bodyPost_ret (results_ct rfl _ _ p2 TFr #[.int .i64 g.f0, .int .i64 g.f1, .bool g.f2, .string g.f3, .int .i64 g.f4.f0, .int .i64 g.f4.f1, .int .i64 g.f4.f2, .string g.f4.f3, .int .u64 g.f5, .slice A g.f6.length c] (0, 0) _ rfl b6 Try.underlying27 rfl (by kernel_rfl)) rfl ?_
   exact ⟨A, c, rfl, hV, hBe⟩
  | false =>
   go_wp2
   clear f_0 f_1 f_2 f_3 f_4 f_5 f_6 f_7 f_8 f_9 r_0 zr_0 r_1 zr_1 r_2 zr_2 r_3 zr_3 r_4 zr_4 r_5 zr_5 r_6 zr_6 r_7 zr_7 r_8 zr_8 r_9 zr_9
   generalize hg : World.setCell wc ⟨p2, 0, none⟩ _ = w4
   replace S := S.set 1 hg rfl
   clear hg
   generalize hg : World.setCell w4 ⟨p2, 1, none⟩ _ = w5
   replace S := S.set 1 hg rfl
   clear hg
   generalize hg : World.setCell w5 ⟨p2, 2, none⟩ _ = w6
   replace S := S.set 1 hg rfl
   clear hg
   replace S : Kn ok w0 [(p7, .cells #[.int .i64 g.f0, .int .i64 g.f1, .bool g.f2, .string g.f3, .int .i64 g.f4.f0, .int .i64 g.f4.f1, .int .i64 g.f4.f2, .string g.f4.f3, .int .u64 g.f5, .slice A g.f6.length c] TFr (0, 0)), (p2, .cells #[.int .i64 g.f0, .int .i64 g.f1, .bool g.f2, .string ⟨#[]⟩, .int .i64 0, .int .i64 0, .int .i64 0, .string ⟨#[]⟩, .int .u64 0, .slice none 0 0] TFr (0, 0))] nil tt [V kSe (.slice A g.f6.length c) g.f6] w6 := S
   generalize hg : World.setCell w6 ⟨p2, 3, none⟩ _ = w7
   replace S := S.set 1 hg rfl
   clear hg
   generalize hg : World.setCell w7 ⟨p2, 4, none⟩ _ = w8
   replace S := S.set 1 hg rfl
   clear hg
   generalize hg : World.setCell w8 ⟨p2, 5, none⟩ _ = w9
   replace S := S.set 1 hg rfl
   clear hg
   replace S : Kn ok w0 [(p7, .cells #[.int .i64 g.f0, .int .i64 g.f1, .bool g.f2, .string g.f3, .int .i64 g.f4.f0, .int .i64 g.f4.f1, .int .i64 g.f4.f2, .string g.f4.f3, .int .u64 g.f5, .slice A g.f6.length c] TFr (0, 0)), (p2, .cells #[.int .i64 g.f0, .int .i64 g.f1, .bool g.f2, .string g.f3, .int .i64 g.f4.f0, .int .i64 g.f4.f1, .int .i64 0, .string ⟨#[]⟩, .int .u64 0, .slice none 0 0] TFr (0, 0))] nil tt [V kSe (.slice A g.f6.length c) g.f6] w9 := S
   generalize hg : World.setCell w9 ⟨p2, 6, none⟩ _ = w10
   replace S := S.set 1 hg rfl
   clear hg
   generalize hg : World.setCell w10 ⟨p2, 7, none⟩ _ = w11
   replace S := S.set 1 hg rfl
   clear hg
   generalize hg : World.setCell w11 ⟨p2, 8, none⟩ _ = w12
   replace S := S.set 1 hg rfl
   clear hg
   replace S : Kn ok w0 [(p7, .cells #[.int .i64 g.f0, .int .i64 g.f1, .bool g.f2, .string g.f3, .int .i64 g.f4.f0, .int .i64 g.f4.f1, .int .i64 g.f4.f2, .string g.f4.f3, .int .u64 g.f5, .slice A g.f6.length c] TFr (0, 0)), (p2, .cells #[.int .i64 g.f0, .int .i64 g.f1, .bool g.f2, .string g.f3, .int .i64 g.f4.f0, .int .i64 g.f4.f1, .int .i64 g.f4.f2, .string g.f4.f3, .int .u64 g.f5, .slice none 0 0] TFr (0, 0))] nil tt [V kSe (.slice A g.f6.length c) g.f6] w12 := S
   generalize hg : World.setCell w12 ⟨p2, 9, none⟩ _ = w13
   replace S := S.set 1 hg rfl
   clear hg
   replace S : Kn ok w0 [(p7, .cells #[.int .i64 g.f0, .int .i64 g.f1, .bool g.f2, .string g.f3, .int .i64 g.f4.f0, .int .i64 g.f4.f1, .int .i64 g.f4.f2, .string g.f4.f3, .int .u64 g.f5, .slice A g.f6.length c] TFr (0, 0)), (p2, .cells #[.int .i64 g.f0, .int .i64 g.f1, .bool g.f2, .string g.f3, .int .i64 g.f4.f0, .int .i64 g.f4.f1, .int .i64 g.f4.f2, .string g.f4.f3, .int .u64 g.f5, .slice A g.f6.length c] TFr (0, 0))] nil tt [V kSe (.slice A g.f6.length c) g.f6] w13 := S
   have b6 := S.get 1 rfl
   have hV := S.out 0 rfl
   have hBe := S.bel
   clear S
   refine bodyPost_ret (results_ct rfl _ _ p2 TFr #[.int .i64 g.f0, .int .i64 g.f1, .bool g.f2, .string g.f3, .int .i64 g.f4.f0, .int .i64 g.f4.f1, .int .i64 g.f4.f2, .string g.f4.f3, .int .u64 g.f5, .slice A g.f6.length c] (0, 0) _ rfl b6 Try.underlying27 rfl (by kernel_rfl)) rfl ?_
   exact ⟨A, c, rfl, hV, hBe⟩
set_option maxHeartbeats 16000000 in
theorem read_go (ok : Nat → Prop) (s : ByteArray) (hs : s.size ≤ 100000) (w0 w : World) (S : Kn ok w0 [] nil tt [] w) :
  Calls Try.prog 32 #[.string s] w fun e w' => ∃ A c, e = .returned (.tuple #[.agg (cF (readF s).1 (.slice A (readF s).1.f6.length c)), .bool (readF s).2]) ∧ (V kSe (.slice A (readF s).1.f6.length c) (readF s).1.f6).P w' (fun k => ok k ∨ w0.heap.size ≤ k) ∧ Below w0.heap.size w0 w' := by
 have hx : ∀ h : 0 < s.size, ((s[0]'h).toNat : Int) = bt s 0 := bt_at s 0
 have hr := bt_range s 0
 have HG := Aside0.mk (get_calls s 1 (by omega))
 have HGs := Aside0.mk (XV01.G_shape s 1)
 by_cases c0 : s.size = 0
 ·have e : readF s = (zF, false) := by unfold readF; rw [if_pos (Or.inl c0)]
  rw [e]
  have cn : s.toList = [] := by rw [Lib.toList_data]; exact List.eq_nil_of_length_eq_zero (by rw [data_length]; exact c0)
  have cb : (s.toList == ([] : List UInt8)) = true := by rw [cn]; rfl
  clear cn
  clear hx hr HG HGs
  go_enter Try.func32, Try.ntmps32
  go_upto_region 1 with (fail)
  generalize hg : World.alloc _ _ = w1
  replace S := S.new hg
  clear hg
  generalize w.heap.size = p2 at S ⊢
  replace S : Kn ok w0 [(p2, .cells #[.int .i64 0, .int .i64 0, .bool false, .string ⟨#[]⟩, .int .i64 0, .int .i64 0, .int .i64 0, .string ⟨#[]⟩, .int .u64 0, .slice none 0 0] TFr (0, 0))] nil tt [] w1 := S
  have r_0 : w1.cell? ⟨p2, 0, none⟩ = some (.int .i64 0) := S.cell 0 0 rfl rfl
  have zr_0 : w1.frozen? ⟨p2, 0, none⟩ = false := S.frozen 0 0 rfl
  have r_1 : w1.cell? ⟨p2, 1, none⟩ = some (.int .i64 0) := S.cell 0 1 rfl rfl
  have zr_1 : w1.frozen? ⟨p2, 1, none⟩ = false := S.frozen 0 1 rfl
  have r_2 : w1.cell? ⟨p2, 2, none⟩ = some (.bool false) := S.cell 0 2 rfl rfl
  have zr_2 : w1.frozen? ⟨p2, 2, none⟩ = false := S.frozen 0 2 rfl
  have r_3 : w1.cell? ⟨p2, 3, none⟩ = some (.string ⟨#[]⟩) := S.cell 0 3 rfl rfl
  have zr_3 : w1.frozen? ⟨p2, 3, none⟩ = false := S.frozen 0 3 rfl
  have r_4 : w1.cell? ⟨p2, 4, none⟩ = some (.int .i64 0) := S.cell 0 4 rfl rfl
  have zr_4 : w1.frozen? ⟨p2, 4, none⟩ = false := S.frozen 0 4 rfl
  have r_5 : w1.cell? ⟨p2, 5, none⟩ = some (.int .i64 0) := S.cell 0 5 rfl rfl
  have zr_5 : w1.frozen? ⟨p2, 5, none⟩ = false := S.frozen 0 5 rfl
  have r_6 : w1.cell? ⟨p2, 6, none⟩ = some (.int .i64 0) := S.cell 0 6 rfl rfl
  have zr_6 : w1.frozen? ⟨p2, 6, none⟩ = false := S.frozen 0 6 rfl
  have r_7 : w1.cell? ⟨p2, 7, none⟩ = some (.string ⟨#[]⟩) := S.cell 0 7 rfl rfl
  have zr_7 : w1.frozen? ⟨p2, 7, none⟩ = false := S.frozen 0 7 rfl
  have r_8 : w1.cell? ⟨p2, 8, none⟩ = some (.int .u64 0) := S.cell 0 8 rfl rfl
  have zr_8 : w1.frozen? ⟨p2, 8, none⟩ = false := S.frozen 0 8 rfl
  have r_9 : w1.cell? ⟨p2, 9, none⟩ = some (.slice none 0 0) := S.cell 0 9 rfl rfl
  have zr_9 : w1.frozen? ⟨p2, 9, none⟩ = false := S.frozen 0 9 rfl
  go_wp2
  clear r_0 zr_0 r_1 zr_1 r_2 zr_2 r_3 zr_3 r_4 zr_4 r_5 zr_5 r_6 zr_6 r_7 zr_7 r_8 zr_8 r_9 zr_9
  generalize hg : World.setCell w1 ⟨p2, 0, none⟩ _ = w2
  replace S := S.set 0 hg rfl
  clear hg
  generalize hg : World.setCell w2 ⟨p2, 1, none⟩ _ = w3
  replace S := S.set 0 hg rfl
  clear hg
  generalize hg : World.setCell w3 ⟨p2, 2, none⟩ _ = w4
  replace S := S.set 0 hg rfl
  clear hg
  replace S : Kn ok w0 [(p2, .cells #[.int .i64 0, .int .i64 0, .bool false, .string ⟨#[]⟩, .int .i64 0, .int .i64 0, .int .i64 0, .string ⟨#[]⟩, .int .u64 0, .slice none 0 0] TFr (0, 0))] nil tt [] w4 := S
  generalize hg : World.setCell w4 ⟨p2, 3, none⟩ _ = w5
  replace S := S.set 0 hg rfl
  clear hg
  generalize hg : World.setCell w5 ⟨p2, 4, none⟩ _ = w6
  replace S := S.set 0 hg rfl
  clear hg
  generalize hg : World.setCell w6 ⟨p2, 5, none⟩ _ = w7
  replace S := S.set 0 hg rfl
  clear hg
  replace S : Kn ok w0 [(p2, .cells #[.int .i64 0, .int .i64 0, .bool false, .string ⟨#[]⟩, .int .i64 0, .int .i64 0, .int .i64 0, .string ⟨#[]⟩, .int .u64 0, .slice none 0 0] TFr (0, 0))] nil tt [] w7 := S
  generalize hg : World.setCell w7 ⟨p2, 6, none⟩ _ = w8
  replace S := S.set 0 hg rfl
  clear hg
  generalize hg : World.setCell w8 ⟨p2, 7, none⟩ _ = w9
  replace S := S.set 0 hg rfl
  clear hg
  generalize hg : World.setCell w9 ⟨p2, 8, none⟩ _ = w10
  replace S := S.set 0 hg rfl
  clear hg
  replace S : Kn ok w0 [(p2, .cells #[.int .i64 0, .int .i64 0, .bool false, .string ⟨#[]⟩, .int .i64 0, .int .i64 0, .int .i64 0, .string ⟨#[]⟩, .int .u64 0, .slice none 0 0] TFr (0, 0))] nil tt [] w10 := S
  generalize hg : World.setCell w10 ⟨p2, 9, none⟩ _ = w11
  replace S := S.set 0 hg rfl
  clear hg
  replace S : Kn ok w0 [(p2, .cells #[.int .i64 0, .int .i64 0, .bool false, .string ⟨#[]⟩, .int .i64 0, .int .i64 0, .int .i64 0, .string ⟨#[]⟩, .int .u64 0, .slice none 0 0] TFr (0, 0))] nil tt [] w11 := S
  have b6 := S.get 0 rfl
  have hV := (V_any (Kd.V_nil kSe 0 _ 0 _) : (V kSe (.slice none 0 0) []).P w11 (fun k => ok k ∨ w0.heap.size ≤ k))
  have hBe := S.bel
  clear S
  refine bodyPost_ret (results_ct rfl _ _ p2 TFr #[.int .i64 0, .int .i64 0, .bool false, .string ⟨#[]⟩, .int .i64 0, .int .i64 0, .int .i64 0, .string ⟨#[]⟩, .int .u64 0, .slice none 0 0] (0, 0) _ rfl b6 Try.underlying27 rfl (by kernel_rfl)) rfl ?_
  exact ⟨none, 0, rfl, hV, hBe⟩
 have cb : (s.toList == ([] : List UInt8)) = false := by
  have : s.toList ≠ [] := fun h => c0 (by rw [← data_length, ← Lib.toList_data, h]; rfl)
  exact beq_eq_false_iff_ne.mpr this
 have c00 : (0 : Int) < (s.size : Int) := by omega
 by_cases c1 : bt s 0 < 1
 ·have e : readF s = (zF, false) := by unfold readF; rw [if_pos (by omega)]
  rw [e]
  have c1b : decide (bt s 0 < 1) = true := decide_eq_true c1
  clear hr HG HGs c1 c0
  go_enter Try.func32, Try.ntmps32
  go_upto_region 1 with (fail)
  generalize hg : World.alloc _ _ = w1
  replace S := S.new hg
  clear hg
  generalize w.heap.size = p2 at S ⊢
  replace S : Kn ok w0 [(p2, .cells #[.int .i64 0, .int .i64 0, .bool false, .string ⟨#[]⟩, .int .i64 0, .int .i64 0, .int .i64 0, .string ⟨#[]⟩, .int .u64 0, .slice none 0 0] TFr (0, 0))] nil tt [] w1 := S
  have r_0 : w1.cell? ⟨p2, 0, none⟩ = some (.int .i64 0) := S.cell 0 0 rfl rfl
  have zr_0 : w1.frozen? ⟨p2, 0, none⟩ = false := S.frozen 0 0 rfl
  have r_1 : w1.cell? ⟨p2, 1, none⟩ = some (.int .i64 0) := S.cell 0 1 rfl rfl
  have zr_1 : w1.frozen? ⟨p2, 1, none⟩ = false := S.frozen 0 1 rfl
  have r_2 : w1.cell? ⟨p2, 2, none⟩ = some (.bool false) := S.cell 0 2 rfl rfl
  have zr_2 : w1.frozen? ⟨p2, 2, none⟩ = false := S.frozen 0 2 rfl
  have r_3 : w1.cell? ⟨p2, 3, none⟩ = some (.string ⟨#[]⟩) := S.cell 0 3 rfl rfl
  have zr_3 : w1.frozen? ⟨p2, 3, none⟩ = false := S.frozen 0 3 rfl
  have r_4 : w1.cell? ⟨p2, 4, none⟩ = some (.int .i64 0) := S.cell 0 4 rfl rfl
  have zr_4 : w1.frozen? ⟨p2, 4, none⟩ = false := S.frozen 0 4 rfl
  have r_5 : w1.cell? ⟨p2, 5, none⟩ = some (.int .i64 0) := S.cell 0 5 rfl rfl
  have zr_5 : w1.frozen? ⟨p2, 5, none⟩ = false := S.frozen 0 5 rfl
  have r_6 : w1.cell? ⟨p2, 6, none⟩ = some (.int .i64 0) := S.cell 0 6 rfl rfl
  have zr_6 : w1.frozen? ⟨p2, 6, none⟩ = false := S.frozen 0 6 rfl
  have r_7 : w1.cell? ⟨p2, 7, none⟩ = some (.string ⟨#[]⟩) := S.cell 0 7 rfl rfl
  have zr_7 : w1.frozen? ⟨p2, 7, none⟩ = false := S.frozen 0 7 rfl
  have r_8 : w1.cell? ⟨p2, 8, none⟩ = some (.int .u64 0) := S.cell 0 8 rfl rfl
  have zr_8 : w1.frozen? ⟨p2, 8, none⟩ = false := S.frozen 0 8 rfl
  have r_9 : w1.cell? ⟨p2, 9, none⟩ = some (.slice none 0 0) := S.cell 0 9 rfl rfl
  have zr_9 : w1.frozen? ⟨p2, 9, none⟩ = false := S.frozen 0 9 rfl
  go_wp2
  clear r_0 zr_0 r_1 zr_1 r_2 zr_2 r_3 zr_3 r_4 zr_4 r_5 zr_5 r_6 zr_6 r_7 zr_7 r_8 zr_8 r_9 zr_9
  generalize hg : World.setCell w1 ⟨p2, 0, none⟩ _ = w2
  replace S := S.set 0 hg rfl
  clear hg
  generalize hg : World.setCell w2 ⟨p2, 1, none⟩ _ = w3
  replace S := S.set 0 hg rfl
  clear hg
  generalize hg : World.setCell w3 ⟨p2, 2, none⟩ _ = w4
  replace S := S.set 0 hg rfl
  clear hg
  replace S : Kn ok w0 [(p2, .cells #[.int .i64 0, .int .i64 0, .bool false, .string ⟨#[]⟩, .int .i64 0, .int .i64 0, .int .i64 0, .string ⟨#[]⟩, .int .u64 0, .slice none 0 0] TFr (0, 0))] nil tt [] w4 := S
  generalize hg : World.setCell w4 ⟨p2, 3, none⟩ _ = w5
  replace S := S.set 0 hg rfl
  clear hg
  generalize hg : World.setCell w5 ⟨p2, 4, none⟩ _ = w6
  replace S := S.set 0 hg rfl
  clear hg
  generalize hg : World.setCell w6 ⟨p2, 5, none⟩ _ = w7
  replace S := S.set 0 hg rfl
  clear hg
  replace S : Kn ok w0 [(p2, .cells #[.int .i64 0, .int .i64 0, .bool false, .string ⟨#[]⟩, .int .i64 0, .int .i64 0, .int .i64 0, .string ⟨#[]⟩, .int .u64 0, .slice none 0 0] TFr (0, 0))] nil tt [] w7 := S
  generalize hg : World.setCell w7 ⟨p2, 6, none⟩ _ = w8
  replace S := S.set 0 hg rfl
  clear hg
  generalize hg : World.setCell w8 ⟨p2, 7, none⟩ _ = w9
  replace S := S.set 0 hg rfl
  clear hg
  generalize hg : World.setCell w9 ⟨p2, 8, none⟩ _ = w10
  replace S := S.set 0 hg rfl
  clear hg
  replace S : Kn ok w0 [(p2, .cells #[.int .i64 0, .int .i64 0, .bool false, .string ⟨#[]⟩, .int .i64 0, .int .i64 0, .int .i64 0, .string ⟨#[]⟩, .int .u64 0, .slice none 0 0] TFr (0, 0))] nil tt [] w10 := S
  generalize hg : World.setCell w10 ⟨p2, 9, none⟩ _ = w11
  replace S := S.set 0 hg rfl
  clear hg
  replace S : Kn ok w0 [(p2, .cells #[.int .i64 0, .int .i64 0, .bool false, .string ⟨#[]⟩, .int .i64 0, .int .i64 0, .int .i64 0, .string ⟨#[]⟩, .int .u64 0, .slice none 0 0] TFr (0, 0))] nil tt [] w11 := S
  have b6 := S.get 0 rfl
  have hV := (V_any (Kd.V_nil kSe 0 _ 0 _) : (V kSe (.slice none 0 0) []).P w11 (fun k => ok k ∨ w0.heap.size ≤ k))
  have hBe := S.bel
  clear S
  refine bodyPost_ret (results_ct rfl _ _ p2 TFr #[.int .i64 0, .int .i64 0, .bool false, .string ⟨#[]⟩, .int .i64 0, .int .i64 0, .int .i64 0, .string ⟨#[]⟩, .int .u64 0, .slice none 0 0] (0, 0) _ rfl b6 Try.underlying27 rfl (by kernel_rfl)) rfl ?_
  exact ⟨none, 0, rfl, hV, hBe⟩
 have c1b : decide (bt s 0 < 1) = false := decide_eq_false c1
 by_cases c2 : bt s 0 > 4
 ·have e : readF s = (zF, false) := by unfold readF; rw [if_pos (by omega)]
  rw [e]
  have c2b : decide (bt s 0 > 4) = true := decide_eq_true c2
  have c2d : decide (4 < bt s 0) = true := decide_eq_true c2
  clear hr HG HGs c2 c0
  go_enter Try.func32, Try.ntmps32
  go_upto_region 1 with (fail)
  generalize hg : World.alloc _ _ = w1
  replace S := S.new hg
  clear hg
  generalize w.heap.size = p2 at S ⊢
  replace S : Kn ok w0 [(p2, .cells #[.int .i64 0, .int .i64 0, .bool false, .string ⟨#[]⟩, .int .i64 0, .int .i64 0, .int .i64 0, .string ⟨#[]⟩, .int .u64 0, .slice none 0 0] TFr (0, 0))] nil tt [] w1 := S
  have r_0 : w1.cell? ⟨p2, 0, none⟩ = some (.int .i64 0) := S.cell 0 0 rfl rfl
  have zr_0 : w1.frozen? ⟨p2, 0, none⟩ = false := S.frozen 0 0 rfl
  have r_1 : w1.cell? ⟨p2, 1, none⟩ = some (.int .i64 0) := S.cell 0 1 rfl rfl
  have zr_1 : w1.frozen? ⟨p2, 1, none⟩ = false := S.frozen 0 1 rfl
  have r_2 : w1.cell? ⟨p2, 2, none⟩ = some (.bool false) := S.cell 0 2 rfl rfl
  have zr_2 : w1.frozen? ⟨p2, 2, none⟩ = false := S.frozen 0 2 rfl
  have r_3 : w1.cell? ⟨p2, 3, none⟩ = some (.string ⟨#[]⟩) := S.cell 0 3 rfl rfl
  have zr_3 : w1.frozen? ⟨p2, 3, none⟩ = false := S.frozen 0 3 rfl
  have r_4 : w1.cell? ⟨p2, 4, none⟩ = some (.int .i64 0) := S.cell 0 4 rfl rfl
  have zr_4 : w1.frozen? ⟨p2, 4, none⟩ = false := S.frozen 0 4 rfl
  have r_5 : w1.cell? ⟨p2, 5, none⟩ = some (.int .i64 0) := S.cell 0 5 rfl rfl
  have zr_5 : w1.frozen? ⟨p2, 5, none⟩ = false := S.frozen 0 5 rfl
  have r_6 : w1.cell? ⟨p2, 6, none⟩ = some (.int .i64 0) := S.cell 0 6 rfl rfl
  have zr_6 : w1.frozen? ⟨p2, 6, none⟩ = false := S.frozen 0 6 rfl
  have r_7 : w1.cell? ⟨p2, 7, none⟩ = some (.string ⟨#[]⟩) := S.cell 0 7 rfl rfl
  have zr_7 : w1.frozen? ⟨p2, 7, none⟩ = false := S.frozen 0 7 rfl
  have r_8 : w1.cell? ⟨p2, 8, none⟩ = some (.int .u64 0) := S.cell 0 8 rfl rfl
  have zr_8 : w1.frozen? ⟨p2, 8, none⟩ = false := S.frozen 0 8 rfl
  have r_9 : w1.cell? ⟨p2, 9, none⟩ = some (.slice none 0 0) := S.cell 0 9 rfl rfl
  have zr_9 : w1.frozen? ⟨p2, 9, none⟩ = false := S.frozen 0 9 rfl
  go_wp2
  clear r_0 zr_0 r_1 zr_1 r_2 zr_2 r_3 zr_3 r_4 zr_4 r_5 zr_5 r_6 zr_6 r_7 zr_7 r_8 zr_8 r_9 zr_9
  generalize hg : World.setCell w1 ⟨p2, 0, none⟩ _ = w2
  replace S := S.set 0 hg rfl
  clear hg
  generalize hg : World.setCell w2 ⟨p2, 1, none⟩ _ = w3
  replace S := S.set 0 hg rfl
  clear hg
  generalize hg : World.setCell w3 ⟨p2, 2, none⟩ _ = w4
  replace S := S.set 0 hg rfl
  clear hg
  replace S : Kn ok w0 [(p2, .cells #[.int .i64 0, .int .i64 0, .bool false, .string ⟨#[]⟩, .int .i64 0, .int .i64 0, .int .i64 0, .string ⟨#[]⟩, .int .u64 0, .slice none 0 0] TFr (0, 0))] nil tt [] w4 := S
  generalize hg : World.setCell w4 ⟨p2, 3, none⟩ _ = w5
  replace S := S.set 0 hg rfl
  clear hg
  generalize hg : World.setCell w5 ⟨p2, 4, none⟩ _ = w6
  replace S := S.set 0 hg rfl
  clear hg
  generalize hg : World.setCell w6 ⟨p2, 5, none⟩ _ = w7
  replace S := S.set 0 hg rfl
  clear hg
  replace S : Kn ok w0 [(p2, .cells #[.int .i64 0, .int .i64 0, .bool false, .string ⟨#[]⟩, .int .i64 0, .int .i64 0, .int .i64 0, .string ⟨#[]⟩, .int .u64 0, .slice none 0 0] TFr (0, 0))] nil tt [] w7 := S
  generalize hg : World.setCell w7 ⟨p2, 6, none⟩ _ = w8
  replace S := S.set 0 hg rfl
  clear hg
  generalize hg : World.setCell w8 ⟨p2, 7, none⟩ _ = w9
  replace S := S.set 0 hg rfl
  clear hg
  generalize hg : World.setCell w9 ⟨p2, 8, none⟩ _ = w10
  replace S := S.set 0 hg rfl
  clear hg
  replace S : Kn ok w0 [(p2, .cells #[.int .i64 0, .int .i64 0, .bool false, .string ⟨#[]⟩, .int .i64 0, .int .i64 0, .int .i64 0, .string ⟨#[]⟩, .int .u64 0, .slice none 0 0] TFr (0, 0))] nil tt [] w10 := S
  generalize hg : World.setCell w10 ⟨p2, 9, none⟩ _ = w11
  replace S := S.set 0 hg rfl
  clear hg
  replace S : Kn ok w0 [(p2, .cells #[.int .i64 0, .int .i64 0, .bool false, .string ⟨#[]⟩, .int .i64 0, .int .i64 0, .int .i64 0, .string ⟨#[]⟩, .int .u64 0, .slice none 0 0] TFr (0, 0))] nil tt [] w11 := S
  have b6 := S.get 0 rfl
  have hV := (V_any (Kd.V_nil kSe 0 _ 0 _) : (V kSe (.slice none 0 0) []).P w11 (fun k => ok k ∨ w0.heap.size ≤ k))
  have hBe := S.bel
  clear S
  refine bodyPost_ret (results_ct rfl _ _ p2 TFr #[.int .i64 0, .int .i64 0, .bool false, .string ⟨#[]⟩, .int .i64 0, .int .i64 0, .int .i64 0, .string ⟨#[]⟩, .int .u64 0, .slice none 0 0] (0, 0) _ rfl b6 Try.underlying27 rfl (by kernel_rfl)) rfl ?_
  exact ⟨none, 0, rfl, hV, hBe⟩
 have c2b : decide (bt s 0 > 4) = false := decide_eq_false c2
 have c2d : decide (4 < bt s 0) = false := decide_eq_false c2
 rcases hg : G s 1 with ⟨n, q, e0⟩
 rw [hg] at HG HGs
 dsimp only at HG HGs
 by_cases c3 : e0 ≠ 0
 ·have e : readF s = (zF, false) := by unfold readF; rw [if_neg (by omega), hg, if_pos (by left; exact c3)]
  rw [e]
  have c3b : (e0 != 0) = true := bne_iff_ne.mpr c3
  clear hr HGs c3 c0 hg c1 c2
  go_enter Try.func32, Try.ntmps32
  go_upto_region 1 with (fail)
  generalize hg : World.alloc _ _ = w1
  replace S := S.new hg
  clear hg
  generalize w.heap.size = p2 at S ⊢
  replace S : Kn ok w0 [(p2, .cells #[.int .i64 0, .int .i64 0, .bool false, .string ⟨#[]⟩, .int .i64 0, .int .i64 0, .int .i64 0, .string ⟨#[]⟩, .int .u64 0, .slice none 0 0] TFr (0, 0))] nil tt [] w1 := S
  go_wp2_with fail
  refine (HG.out _).mono ?_
  rintro e w2 ⟨rfl, hb⟩
  replace S := S.below hb
  clear hb HG
  have r_0 : w2.cell? ⟨p2, 0, none⟩ = some (.int .i64 0) := S.cell 0 0 rfl rfl
  have zr_0 : w2.frozen? ⟨p2, 0, none⟩ = false := S.frozen 0 0 rfl
  have r_1 : w2.cell? ⟨p2, 1, none⟩ = some (.int .i64 0) := S.cell 0 1 rfl rfl
  have zr_1 : w2.frozen? ⟨p2, 1, none⟩ = false := S.frozen 0 1 rfl
  have r_2 : w2.cell? ⟨p2, 2, none⟩ = some (.bool false) := S.cell 0 2 rfl rfl
  have zr_2 : w2.frozen? ⟨p2, 2, none⟩ = false := S.frozen 0 2 rfl
  have r_3 : w2.cell? ⟨p2, 3, none⟩ = some (.string ⟨#[]⟩) := S.cell 0 3 rfl rfl
  have zr_3 : w2.frozen? ⟨p2, 3, none⟩ = false := S.frozen 0 3 rfl
  have r_4 : w2.cell? ⟨p2, 4, none⟩ = some (.int .i64 0) := S.cell 0 4 rfl rfl
  have zr_4 : w2.frozen? ⟨p2, 4, none⟩ = false := S.frozen 0 4 rfl
  have r_5 : w2.cell? ⟨p2, 5, none⟩ = some (.int .i64 0) := S.cell 0 5 rfl rfl
  have zr_5 : w2.frozen? ⟨p2, 5, none⟩ = false := S.frozen 0 5 rfl
  have r_6 : w2.cell? ⟨p2, 6, none⟩ = some (.int .i64 0) := S.cell 0 6 rfl rfl
  have zr_6 : w2.frozen? ⟨p2, 6, none⟩ = false := S.frozen 0 6 rfl
  have r_7 : w2.cell? ⟨p2, 7, none⟩ = some (.string ⟨#[]⟩) := S.cell 0 7 rfl rfl
  have zr_7 : w2.frozen? ⟨p2, 7, none⟩ = false := S.frozen 0 7 rfl
  have r_8 : w2.cell? ⟨p2, 8, none⟩ = some (.int .u64 0) := S.cell 0 8 rfl rfl
  have zr_8 : w2.frozen? ⟨p2, 8, none⟩ = false := S.frozen 0 8 rfl
  have r_9 : w2.cell? ⟨p2, 9, none⟩ = some (.slice none 0 0) := S.cell 0 9 rfl rfl
  have zr_9 : w2.frozen? ⟨p2, 9, none⟩ = false := S.frozen 0 9 rfl
  go_wp2
  clear r_0 zr_0 r_1 zr_1 r_2 zr_2 r_3 zr_3 r_4 zr_4 r_5 zr_5 r_6 zr_6 r_7 zr_7 r_8 zr_8 r_9 zr_9
  generalize hg : World.setCell w2 ⟨p2, 0, none⟩ _ = w3
  replace S := S.set 0 hg rfl
  clear hg
  generalize hg : World.setCell w3 ⟨p2, 1, none⟩ _ = w4
  replace S := S.set 0 hg rfl
  clear hg
  generalize hg : World.setCell w4 ⟨p2, 2, none⟩ _ = w5
  replace S := S.set 0 hg rfl
  clear hg
  replace S : Kn ok w0 [(p2, .cells #[.int .i64 0, .int .i64 0, .bool false, .string ⟨#[]⟩, .int .i64 0, .int .i64 0, .int .i64 0, .string ⟨#[]⟩, .int .u64 0, .slice none 0 0] TFr (0, 0))] nil tt [] w5 := S
  generalize hg : World.setCell w5 ⟨p2, 3, none⟩ _ = w6
  replace S := S.set 0 hg rfl
  clear hg
  generalize hg : World.setCell w6 ⟨p2, 4, none⟩ _ = w7
  replace S := S.set 0 hg rfl
  clear hg
  generalize hg : World.setCell w7 ⟨p2, 5, none⟩ _ = w8
  replace S := S.set 0 hg rfl
  clear hg
  replace S : Kn ok w0 [(p2, .cells #[.int .i64 0, .int .i64 0, .bool false, .string ⟨#[]⟩, .int .i64 0, .int .i64 0, .int .i64 0, .string ⟨#[]⟩, .int .u64 0, .slice none 0 0] TFr (0, 0))] nil tt [] w8 := S
  generalize hg : World.setCell w8 ⟨p2, 6, none⟩ _ = w9
  replace S := S.set 0 hg rfl
  clear hg
  generalize hg : World.setCell w9 ⟨p2, 7, none⟩ _ = w10
  replace S := S.set 0 hg rfl
  clear hg
  generalize hg : World.setCell w10 ⟨p2, 8, none⟩ _ = w11
  replace S := S.set 0 hg rfl
  clear hg
  replace S : Kn ok w0 [(p2, .cells #[.int .i64 0, .int .i64 0, .bool false, .string ⟨#[]⟩, .int .i64 0, .int .i64 0, .int .i64 0, .string ⟨#[]⟩, .int .u64 0, .slice none 0 0] TFr (0, 0))] nil tt [] w11 := S
  generalize hg : World.setCell w11 ⟨p2, 9, none⟩ _ = w12
  replace S := S.set 0 hg rfl
  clear hg
  replace S : Kn ok w0 [(p2, .cells #[.int .i64 0, .int .i64 0, .bool false, .string ⟨#[]⟩, .int .i64 0, .int .i64 0, .int .i64 0, .string ⟨#[]⟩, .int .u64 0, .slice none 0 0] TFr (0, 0))] nil tt [] w12 := S
  have b6 := S.get 0 rfl
  have hV := (V_any (Kd.V_nil kSe 0 _ 0 _) : (V kSe (.slice none 0 0) []).P w12 (fun k => ok k ∨ w0.heap.size ≤ k))
  have hBe := S.bel
  clear S
  refine bodyPost_ret (results_ct rfl _ _ p2 TFr #[.int .i64 0, .int .i64 0, .bool false, .string ⟨#[]⟩, .int .i64 0, .int .i64 0, .int .i64 0, .string ⟨#[]⟩, .int .u64 0, .slice none 0 0] (0, 0) _ rfl b6 Try.underlying27 rfl (by kernel_rfl)) rfl ?_
  exact ⟨none, 0, rfl, hV, hBe⟩
 obtain rfl : e0 = 0 := by omega
 clear c3
 by_cases c4 : n > 1099511627776
 ·have e : readF s = (zF, false) := by unfold readF; rw [if_neg (by omega), hg, if_pos (by right; exact c4)]
  rw [e]
  have c4b : decide (n > 1099511627776) = true := decide_eq_true c4
  have c4d : decide (1099511627776 < n) = true := decide_eq_true c4
  clear hr HGs c4 c0 hg c1 c2
  go_enter Try.func32, Try.ntmps32
  go_upto_region 1 with (fail)
  generalize hg : World.alloc _ _ = w1
  replace S := S.new hg
  clear hg
  generalize w.heap.size = p2 at S ⊢
  replace S : Kn ok w0 [(p2, .cells #[.int .i64 0, .int .i64 0, .bool false, .string ⟨#[]⟩, .int .i64 0, .int .i64 0, .int .i64 0, .string ⟨#[]⟩, .int .u64 0, .slice none 0 0] TFr (0, 0))] nil tt [] w1 := S
  go_wp2_with fail
  refine (HG.out _).mono ?_
  rintro e w2 ⟨rfl, hb⟩
  replace S := S.below hb
  clear hb HG
  have r_0 : w2.cell? ⟨p2, 0, none⟩ = some (.int .i64 0) := S.cell 0 0 rfl rfl
  have zr_0 : w2.frozen? ⟨p2, 0, none⟩ = false := S.frozen 0 0 rfl
  have r_1 : w2.cell? ⟨p2, 1, none⟩ = some (.int .i64 0) := S.cell 0 1 rfl rfl
  have zr_1 : w2.frozen? ⟨p2, 1, none⟩ = false := S.frozen 0 1 rfl
  have r_2 : w2.cell? ⟨p2, 2, none⟩ = some (.bool false) := S.cell 0 2 rfl rfl
  have zr_2 : w2.frozen? ⟨p2, 2, none⟩ = false := S.frozen 0 2 rfl
  have r_3 : w2.cell? ⟨p2, 3, none⟩ = some (.string ⟨#[]⟩) := S.cell 0 3 rfl rfl
  have zr_3 : w2.frozen? ⟨p2, 3, none⟩ = false := S.frozen 0 3 rfl
  have r_4 : w2.cell? ⟨p2, 4, none⟩ = some (.int .i64 0) := S.cell 0 4 rfl rfl
  have zr_4 : w2.frozen? ⟨p2, 4, none⟩ = false := S.frozen 0 4 rfl
  have r_5 : w2.cell? ⟨p2, 5, none⟩ = some (.int .i64 0) := S.cell 0 5 rfl rfl
  have zr_5 : w2.frozen? ⟨p2, 5, none⟩ = false := S.frozen 0 5 rfl
  have r_6 : w2.cell? ⟨p2, 6, none⟩ = some (.int .i64 0) := S.cell 0 6 rfl rfl
  have zr_6 : w2.frozen? ⟨p2, 6, none⟩ = false := S.frozen 0 6 rfl
  have r_7 : w2.cell? ⟨p2, 7, none⟩ = some (.string ⟨#[]⟩) := S.cell 0 7 rfl rfl
  have zr_7 : w2.frozen? ⟨p2, 7, none⟩ = false := S.frozen 0 7 rfl
  have r_8 : w2.cell? ⟨p2, 8, none⟩ = some (.int .u64 0) := S.cell 0 8 rfl rfl
  have zr_8 : w2.frozen? ⟨p2, 8, none⟩ = false := S.frozen 0 8 rfl
  have r_9 : w2.cell? ⟨p2, 9, none⟩ = some (.slice none 0 0) := S.cell 0 9 rfl rfl
  have zr_9 : w2.frozen? ⟨p2, 9, none⟩ = false := S.frozen 0 9 rfl
  go_wp2
  clear r_0 zr_0 r_1 zr_1 r_2 zr_2 r_3 zr_3 r_4 zr_4 r_5 zr_5 r_6 zr_6 r_7 zr_7 r_8 zr_8 r_9 zr_9
  generalize hg : World.setCell w2 ⟨p2, 0, none⟩ _ = w3
  replace S := S.set 0 hg rfl
  clear hg
  generalize hg : World.setCell w3 ⟨p2, 1, none⟩ _ = w4
  replace S := S.set 0 hg rfl
  clear hg
  generalize hg : World.setCell w4 ⟨p2, 2, none⟩ _ = w5
  replace S := S.set 0 hg rfl
  clear hg
  replace S : Kn ok w0 [(p2, .cells #[.int .i64 0, .int .i64 0, .bool false, .string ⟨#[]⟩, .int .i64 0, .int .i64 0, .int .i64 0, .string ⟨#[]⟩, .int .u64 0, .slice none 0 0] TFr (0, 0))] nil tt [] w5 := S
  generalize hg : World.setCell w5 ⟨p2, 3, none⟩ _ = w6
  replace S := S.set 0 hg rfl
  clear hg
  generalize hg : World.setCell w6 ⟨p2, 4, none⟩ _ = w7
  replace S := S.set 0 hg rfl
  clear hg
  generalize hg : World.setCell w7 ⟨p2, 5, none⟩ _ = w8
  replace S := S.set 0 hg rfl
  clear hg
  replace S : Kn ok w0 [(p2, .cells #[.int .i64 0, .int .i64 0, .bool false, .string ⟨#[]⟩, .int .i64 0, .int .i64 0, .int .i64 0, .string ⟨#[]⟩, .int .u64 0, .slice none 0 0] TFr (0, 0))] nil tt [] w8 := S
  generalize hg : World.setCell w8 ⟨p2, 6, none⟩ _ = w9
  replace S := S.set 0 hg rfl
  clear hg
  generalize hg : World.setCell w9 ⟨p2, 7, none⟩ _ = w10
  replace S := S.set 0 hg rfl
  clear hg
  generalize hg : World.setCell w10 ⟨p2, 8, none⟩ _ = w11
  replace S := S.set 0 hg rfl
  clear hg
  replace S : Kn ok w0 [(p2, .cells #[.int .i64 0, .int .i64 0, .bool false, .string ⟨#[]⟩, .int .i64 0, .int .i64 0, .int .i64 0, .string ⟨#[]⟩, .int .u64 0, .slice none 0 0] TFr (0, 0))] nil tt [] w11 := S
  generalize hg : World.setCell w11 ⟨p2, 9, none⟩ _ = w12
  replace S := S.set 0 hg rfl
  clear hg
  replace S : Kn ok w0 [(p2, .cells #[.int .i64 0, .int .i64 0, .bool false, .string ⟨#[]⟩, .int .i64 0, .int .i64 0, .int .i64 0, .string ⟨#[]⟩, .int .u64 0, .slice none 0 0] TFr (0, 0))] nil tt [] w12 := S
  have b6 := S.get 0 rfl
  have hV := (V_any (Kd.V_nil kSe 0 _ 0 _) : (V kSe (.slice none 0 0) []).P w12 (fun k => ok k ∨ w0.heap.size ≤ k))
  have hBe := S.bel
  clear S
  refine bodyPost_ret (results_ct rfl _ _ p2 TFr #[.int .i64 0, .int .i64 0, .bool false, .string ⟨#[]⟩, .int .i64 0, .int .i64 0, .int .i64 0, .string ⟨#[]⟩, .int .u64 0, .slice none 0 0] (0, 0) _ rfl b6 Try.underlying27 rfl (by kernel_rfl)) rfl ?_
  exact ⟨none, 0, rfl, hV, hBe⟩
 have c4b : decide (n > 1099511627776) = false := decide_eq_false c4
 have c4d : decide (1099511627776 < n) = false := decide_eq_false c4
 obtain ⟨hn0, hq0, hq1⟩ : 0 ≤ n ∧ 0 ≤ q ∧ q ≤ s.size := by rcases HGs.out with ⟨e, h, he⟩ | ⟨n', q', h, hp, h1, h2, h3, h4, _⟩ <;> (simp only [Prod.mk.injEq] at h; omega)
 have hwn : IntKind.i64.wrap n = n := by rw [IntKind.wrap_i64]; omega
 have hwb : IntKind.i64.wrap (bt s 0) = bt s 0 := by rw [IntKind.wrap_i64]; omega
 have e : readF s = ((rdBody ⟨bt s 0, n, false, ⟨#[]⟩, zv, 0, []⟩ s q).1, (rdBody ⟨bt s 0, n, false, ⟨#[]⟩, zv, 0, []⟩ s q).2.2 && decide ((rdBody ⟨bt s 0, n, false, ⟨#[]⟩, zv, 0, []⟩ s q).2.1 = s.size)) := by unfold readF; rw [if_neg (by omega), hg, if_neg (by simp only; omega)]
 rw [e]
 clear e hg HGs c1 c2 c4 c0
 generalize bt s 0 = kd at *
 obtain rfl | rfl | rfl | rfl : kd = 1 ∨ kd = 2 ∨ kd = 3 ∨ kd = 4 := by have h1 := of_decide_eq_false c1b; have h2 := of_decide_eq_false c2b; omega
 ·exact read_k1 ok s hs w0 w S n q hx HG cb c00 hq0 hq1 hwn c4b c4d
 ·exact read_k2 ok s hs w0 w S n q hx HG cb c00 hq0 hq1 hwn c4b c4d
 ·exact read_k3 ok s hs w0 w S n q hx HG cb c00 hq0 hq1 hwn c4b c4d
 ·exact read_k4 ok s hs w0 w S n q hx HG cb c00 hq0 hq1 hwn c4b c4d
theorem read_calls (s : ByteArray) (hs : s.size ≤ 100000) (w : World) : Calls Try.prog 32 #[.string s] w fun e w' => ∃ A c, e = .returned (.tuple #[.agg (cF (readF s).1 (.slice A (readF s).1.f6.length c)), .bool (readF s).2]) ∧ (V kSe (.slice A (readF s).1.f6.length c) (readF s).1.f6).P w' (fun k => w.heap.size ≤ k) ∧ Below w.heap.size w w' := by
 refine (read_go (fun _ => False) s hs w w (Kn.start _ w)).mono ?_
 rintro e w' ⟨A, c, rfl, hV, hb⟩
 exact ⟨A, c, rfl, Ft.mono _ hV (fun k hk => hk.resolve_left id), hb⟩
end Go.Proofs.Ytjccgdnnnlgeeaa.XFr
end

section
/- frame.write, walked. -/
namespace Go.Proofs.Ytjccgdnnnlgeeaa.XKn
open Go.RowKit Go.Proofs.YtjccgdnnnlgeeaaW.PrintWords Go.Proofs.YtjccgdnnnlgeeaaW.PrintLast Go.Proofs.YtjccgdnnnlgeeaaW.PrintMore Go.Proofs.Ytjccgdnnnlgeeaa.PA Go.Proofs.Ytjccgdnnnlgeeaa.XMem Go.Proofs.Ytjccgdnnnlgeeaa.XSt
set_option linter.unusedVariables false
set_option linter.unusedSimpArgs false
theorem frame_delta.kn {w : World} (k : Nat) {a0_0 : Int} {a0_1 : Int} {a0_2 : Bool} {a0_3 : ByteArray} {a0_4 : Int} {a0_5 : Int} {a0_6 : Int} {a0_7 : ByteArray} {a0_8 : Int} {A0_9 : Option Addr} {c0_9 : Nat} {l0_9 : List (S52)} {r1 : ByteArray} {r2 : Bool} (h : frame_delta.f k a0_0 a0_1 a0_2 a0_3 a0_4 a0_5 a0_6 a0_7 a0_8 l0_9 = some (r1, r2)) {Q1_ : Nat → Prop} (g1 : (V k52 (.slice A0_9 l0_9.length c0_9) l0_9).P w Q1_) :
  Calls Try.prog 49 #[.agg #[.int .i64 a0_0, .int .i64 a0_1, .bool a0_2, .string a0_3, .int .i64 a0_4, .int .i64 a0_5, .int .i64 a0_6, .string a0_7, .int .u64 a0_8, .slice A0_9 l0_9.length c0_9]] w fun e w' => e = .returned (.tuple #[.string r1, .bool r2]) ∧ Below w.heap.size w w' := by
 refine (frame_delta.calls k a0_0 a0_1 a0_2 a0_3 a0_4 a0_5 a0_6 a0_7 a0_8 A0_9 c0_9 l0_9 r1 r2 w (Kd.V_reads' (e := 0) (base := 0) g1).2.2 (Kd.V_reads' (e := 0) (base := 0) g1).2.1 h).mono ?_
 rintro e w' ⟨y0, y1⟩
 exact ⟨y0, y1⟩
theorem frame_sum.kn {w : World} (k : Nat) {a0_0 : Int} {a0_1 : Int} {a0_2 : Bool} {a0_3 : ByteArray} {a0_4 : Int} {a0_5 : Int} {a0_6 : Int} {a0_7 : ByteArray} {a0_8 : Int} {A0_9 : Option Addr} {c0_9 : Nat} {l0_9 : List (S52)} {r1 : ByteArray} {r2 : Bool} (h : frame_sum.f k a0_0 a0_1 a0_2 a0_3 a0_4 a0_5 a0_6 a0_7 a0_8 l0_9 = some (r1, r2)) {Q1_ : Nat → Prop} (g1 : (V k52 (.slice A0_9 l0_9.length c0_9) l0_9).P w Q1_) :
  Calls Try.prog 51 #[.agg #[.int .i64 a0_0, .int .i64 a0_1, .bool a0_2, .string a0_3, .int .i64 a0_4, .int .i64 a0_5, .int .i64 a0_6, .string a0_7, .int .u64 a0_8, .slice A0_9 l0_9.length c0_9]] w fun e w' => e = .returned (.tuple #[.string r1, .bool r2]) ∧ Below w.heap.size w w' := by
 refine (frame_sum.calls k a0_0 a0_1 a0_2 a0_3 a0_4 a0_5 a0_6 a0_7 a0_8 A0_9 c0_9 l0_9 r1 r2 w (Kd.V_reads' (e := 0) (base := 0) g1).2.2 (Kd.V_reads' (e := 0) (base := 0) g1).2.1 h).mono ?_
 rintro e w' ⟨y0, y1⟩
 exact ⟨y0, y1⟩
theorem frame_Same.kn {w : World} (k : Nat) {a0_0 : Int} {a0_1 : Int} {a0_2 : Bool} {a0_3 : ByteArray} {a0_4 : Int} {a0_5 : Int} {a0_6 : Int} {a0_7 : ByteArray} {a0_8 : Int} {A0_9 : Option Addr} {c0_9 : Nat} {l0_9 : List (S52)} {a1_0 : Int} {a1_1 : Int} {a1_2 : Bool} {a1_3 : ByteArray} {a1_4 : Int} {a1_5 : Int} {a1_6 : Int} {a1_7 : ByteArray} {a1_8 : Int} {A1_9 : Option Addr} {c1_9 : Nat} {l1_9 : List (S52)} {r : Bool} (h : frame_Same.f k a0_0 a0_1 a0_2 a0_3 a0_4 a0_5 a0_6 a0_7 a0_8 l0_9 a1_0 a1_1 a1_2 a1_3 a1_4 a1_5 a1_6 a1_7 a1_8 l1_9 = some r) {Q1_ : Nat → Prop} {Q2_ : Nat → Prop} (g1 : (V k52 (.slice A0_9 l0_9.length c0_9) l0_9).P w Q1_) (g2 : (V k52 (.slice A1_9 l1_9.length c1_9) l1_9).P w Q2_) :
  Calls Try.prog 15 #[.agg #[.int .i64 a0_0, .int .i64 a0_1, .bool a0_2, .string a0_3, .int .i64 a0_4, .int .i64 a0_5, .int .i64 a0_6, .string a0_7, .int .u64 a0_8, .slice A0_9 l0_9.length c0_9], .agg #[.int .i64 a1_0, .int .i64 a1_1, .bool a1_2, .string a1_3, .int .i64 a1_4, .int .i64 a1_5, .int .i64 a1_6, .string a1_7, .int .u64 a1_8, .slice A1_9 l1_9.length c1_9]] w fun e w' => e = .returned (.bool r) ∧ Below w.heap.size w w' := by
 refine (frame_Same.calls k a0_0 a0_1 a0_2 a0_3 a0_4 a0_5 a0_6 a0_7 a0_8 A0_9 c0_9 l0_9 a1_0 a1_1 a1_2 a1_3 a1_4 a1_5 a1_6 a1_7 a1_8 A1_9 c1_9 l1_9 r w (Kd.V_reads' (e := 0) (base := 0) g1).2.2 (Kd.V_reads' (e := 0) (base := 0) g1).2.1 (Kd.V_reads' (e := 0) (base := 0) g2).2.2 (Kd.V_reads' (e := 0) (base := 0) g2).2.1 h).mono ?_
 rintro e w' ⟨y0, y1⟩
 exact ⟨y0, y1⟩
theorem varint_Put.kn {w : World} (k : Nat) {a0 : Int} {r : ByteArray} (h : varint_Put.f k a0 = some r)  :
  Calls Try.prog 39 #[.int .u64 a0] w fun e w' => e = .returned (.string r) ∧ Below w.heap.size w w' := by
 refine (varint_Put.calls k a0 r w h).mono ?_
 rintro e w' ⟨y0, y1⟩
 exact ⟨y0, y1⟩
end Go.Proofs.Ytjccgdnnnlgeeaa.XKn
namespace Go.Proofs.Ytjccgdnnnlgeeaa.XFr
open Go.RowKit Go.Proofs.YtjccgdnnnlgeeaaW.PrintWords Go.Proofs.YtjccgdnnnlgeeaaW.PrintLast Go.Proofs.YtjccgdnnnlgeeaaW.PrintMore Go.Proofs.Ytjccgdnnnlgeeaa.PA Go.Proofs.Ytjccgdnnnlgeeaa.XMem Go.Proofs.Ytjccgdnnnlgeeaa.XSt Go.Proofs.Ytjccgdnnnlgeeaa.XQuiet Go.Proofs.Ytjccgdnnnlgeeaa.XKn
open Go.Proofs.Ytjccgdnnnlgeeaa.XSum (Se kSe)
open Go.Proofs.Ytjccgdnnnlgeeaa.XV17 (mayT)
open Go.Proofs.Ytjccgdnnnlgeeaa.XV01 (G P)
open Go.Proofs.Ytjccgdnnnlgeeaa.XCrc (sealB openB)
set_option linter.unusedVariables false
set_option linter.unusedSimpArgs false
set_option maxRecDepth 100000
attribute [local go_sem] idx1 idx2 idx3 idx4 fld0 fld1
theorem conv1 (x : Int) (g : Nat) (w : World) (h : w.cell? ⟨g, 0, none⟩ = some (.int .u8 x)) : (convert 40 9 (.slice (some ⟨g, 0, none⟩) 1 1)).run Try.prog w = .ok (.string (strOfNums [x])) w := by
 have hC : Kd.C (Kd.int .u8) w (some ⟨g, 0, none⟩) 1 [x] := Kd.C_of_reads (d := (0 : Int)) ⟨rfl, by decide, fun _ => ⟨_, rfl, fun j hj => by
  have : j = 0 := by omega
  subst this
  rw [add_plain, h]
  rfl⟩⟩
 exact Kd.C_string Try.underlying40 Try.underlying5 Try.underlying9 hC
abbrev qconv (a b : TypeId) (o : Operand) : Op := .convert a b o
theorem new0 (w : World) (v : Value) (t : TypeId) : (w.alloc (.cells #[v] t)).cell? ⟨w.heap.size, 0, none⟩ = some v := by
 simp
attribute [local go_sem] new0

set_option maxHeartbeats 4000000 in
theorem wr3 (ok : Nat → Prop) (f : Fr) (A : Option Addr) (c : Nat) (w0 w : World) (S : Kn ok w0 [] nil tt [V kSe (.slice A f.f6.length c) f.f6] w) (h7 : f.f0 = 3) (hl : f.f6.length ≤ 40) (hz : ∀ x ∈ f.f6, x.f0.size ≤ 9223372036854775807) :
  Calls Try.prog 53 #[.agg #[.int .i64 f.f0, .int .i64 f.f1, .bool f.f2, .string f.f3, .int .i64 f.f4.f0, .int .i64 f.f4.f1, .int .i64 f.f4.f2, .string f.f4.f3, .int .u64 f.f5, .slice A f.f6.length c]] w fun e w' => e = .returned (.tuple #[.string (bodyF f).1, .bool (bodyF f).2]) ∧ Below w0.heap.size w0 w' := by
 have e : bodyF f = putT f.f6 := by unfold bodyF; rw [if_neg (by omega), if_neg (by omega), if_pos h7]
 rw [e]
 have HP := Aside0.mk (fun w v h => put06 f.f6 hl hz w v h)
 generalize putT f.f6 = r at HP ⊢
 obtain ⟨r1, r2⟩ := r
 clear e h7 hl hz
 go_enter Try.func53, Try.ntmps53
 go_upto_region 1 with (fail)
 generalize hg : World.alloc _ _ = w1
 replace S := S.new hg
 clear hg
 generalize w.heap.size = p1 at S ⊢
 replace S : Kn ok w0 [(p1, .cells #[.int .i64 f.f0, .int .i64 f.f1, .bool f.f2, .string f.f3, .int .i64 f.f4.f0, .int .i64 f.f4.f1, .int .i64 f.f4.f2, .string f.f4.f3, .int .u64 f.f5, .slice A f.f6.length c] TFr (0, 0))] nil tt [V kSe (.slice A f.f6.length c) f.f6] w1 := S
 have f_9 : w1.cell? ⟨p1, 9, none⟩ = some (.slice A f.f6.length c) := S.cell 0 9 rfl rfl
 go_wp2_with fail
 refine (HP.out _ _ (S.im 0 rfl)).mono ?_
 rintro e w2 ⟨rfl, hb⟩
 replace S := S.below hb
 clear f_9 hb HP
 go_wp2
 go_ret2
 exact ⟨rfl, S.bel⟩
set_option maxHeartbeats 4000000 in
theorem wr4 (ok : Nat → Prop) (f : Fr) (A : Option Addr) (c : Nat) (w0 w : World) (S : Kn ok w0 [] nil tt [V kSe (.slice A f.f6.length c) f.f6] w) (h7 : f.f0 = 4) (hl : f.f6.length ≤ 40) (hz : ∀ x ∈ f.f6, x.f0.size ≤ 9223372036854775807) :
  Calls Try.prog 57 #[.agg #[.int .i64 f.f0, .int .i64 f.f1, .bool f.f2, .string f.f3, .int .i64 f.f4.f0, .int .i64 f.f4.f1, .int .i64 f.f4.f2, .string f.f4.f3, .int .u64 f.f5, .slice A f.f6.length c]] w fun e w' => e = .returned (.tuple #[.string (bodyF f).1, .bool (bodyF f).2]) ∧ Below w0.heap.size w0 w' := by
 have e : bodyF f = (⟨#[]⟩, true) := by unfold bodyF; rw [if_neg (by omega), if_neg (by omega), if_neg (by omega)]
 rw [e]
 clear e h7 hl hz
 go_enter Try.func57, Try.ntmps57
 go_upto_region 1 with (fail)
 generalize hg : World.alloc _ _ = w1
 replace S := S.new hg
 clear hg
 generalize w.heap.size = p1 at S ⊢
 replace S : Kn ok w0 [(p1, .cells #[.int .i64 f.f0, .int .i64 f.f1, .bool f.f2, .string f.f3, .int .i64 f.f4.f0, .int .i64 f.f4.f1, .int .i64 f.f4.f2, .string f.f4.f3, .int .u64 f.f5, .slice A f.f6.length c] TFr (0, 0))] nil tt [V kSe (.slice A f.f6.length c) f.f6] w1 := S
 go_wp2
 go_ret2
 exact ⟨rfl, S.bel⟩
theorem TT_len (s : ByteArray) (p : Int) (hs : s.size ≤ 100000) : (TT s p).1.length ≤ 32 := by
 rcases TT_shape s p (by omega) with ⟨e, h, _⟩ | ⟨t, q, h, hm, _⟩
 ·rw [h]; exact Nat.zero_le _
 ·rw [h]; exact (tB_le hm).2
theorem read_len (s : ByteArray) (hs : s.size ≤ 100000) : (readF s).1.f6.length ≤ 32 := by
 have ht := fun p => TT_len s p hs
 unfold readF
 split
 ·exact Nat.zero_le _
 ·split
  ·exact Nat.zero_le _
  ·unfold rdBody rdDelta
   simp only
   repeat' split
   all_goals first | exact Nat.zero_le _ | exact ht _
set_option maxHeartbeats 8000000 in
theorem write_k1 (ok : Nat → Prop) (f : Fr) (A : Option Addr) (c : Nat) (w0 w : World) (S : Kn ok w0 [] nil tt [V kSe (.slice A f.f6.length c) f.f6] w) (h7 : f.f0 = 1) (hl : f.f6.length ≤ 40) (hz : ∀ x ∈ f.f6, x.f0.size ≤ 9223372036854775807) (hn : f.f3.size ≤ 9223372036854775807) (hs0 : 0 ≤ f.f1) (hs1 : f.f1 ≤ 1099511627776) (h5 : 0 ≤ f.f5 ∧ f.f5 < 18446744073709551616) :
  Calls Try.prog 24 #[.agg #[.int .i64 1, .int .i64 f.f1, .bool f.f2, .string f.f3, .int .i64 f.f4.f0, .int .i64 f.f4.f1, .int .i64 f.f4.f2, .string f.f4.f3, .int .u64 f.f5, .slice A f.f6.length c]] w fun e w' => ∃ t, e = .returned (.tuple #[.string t, .bool (mayF f)]) ∧ (mayF f = true → t = plainF f) ∧ Below w0.heap.size w0 w' := by
 have HW : ∀ z : World, (V kSe (.slice A f.f6.length c) f.f6).P z (fun _ => True) → Calls Try.prog 49 #[.agg #[.int .i64 1, .int .i64 f.f1, .bool f.f2, .string f.f3, .int .i64 f.f4.f0, .int .i64 f.f4.f1, .int .i64 f.f4.f2, .string f.f4.f3, .int .u64 f.f5, .slice A f.f6.length c]] z fun e w' => e = .returned (.tuple #[.string (bodyF f).1, .bool (bodyF f).2]) ∧ Below z.heap.size z w' := fun z g => by
  have h := frame_delta.kn (r1 := (bodyF f).1) (r2 := (bodyF f).2) 100 (delta_b 100 f hn (by omega) h7) g
  rw [h7] at h
  exact h
 replace HW := Aside0.mk HW
 have HMB := Aside0.mk (fun h : mayF f = true => (may_body h).1)
 have HWM := Aside0.mk (write_may f (by omega) h5)
 have hbl := body_le f
 have hPl := XV01.P_le f.f1
 have hpl : plainF f = (strOfNums [1] ++ P f.f1) ++ (bodyF f).1 := by show (strOfNums [f.f0 % 256] ++ P f.f1) ++ (bodyF f).1 = _; rw [h7]; rfl
 have hpz := plain_le hs0 hs1
 have HRD := Aside0.mk (fun z => read_calls (plainF f) (by omega) z)
 have HSM := Aside0.mk (sameF_b 100)
 have HLN := Aside0.mk hl
 have HPut := Aside0.mk (XV01.put_f 20 f.f1 hs0 (by omega) (by omega))
 have hw1 : IntKind.u64.wrap f.f1 = f.f1 := XVar.wrap_u64 _ hs0 (by omega)
 have hs0b : decide (f.f1 < 0) = false := decide_eq_false (by omega)
 have hs1b : decide (f.f1 > 1099511627776) = false := decide_eq_false (by omega)
 have hs1d : decide (1099511627776 < f.f1) = false := decide_eq_false (by omega)
 clear h5 hz hn hs0 hs1 hl
 generalize hb : bodyF f = bo at HW HMB hpl hbl
 clear hb
 obtain ⟨b1, b2⟩ := bo
 dsimp only at HW HMB hpl hbl
 generalize P f.f1 = pq at HPut hpl hPl
 have hcv : ∀ (g : Nat) (w : World), w.cell? ⟨g, 0, none⟩ = some (.int .u8 (IntKind.u8.wrap 1)) → (convert 40 9 (.slice (some ⟨g, 0, none⟩) 1 1)).run Try.prog w = .ok (.string (strOfNums [1])) w := fun g w h => conv1 1 g w (h.trans (by rw [IntKind.wrap_u8]; rfl))
 have hz1 := one_nums 1
 generalize strOfNums [1] = h1 at hcv hz1 hpl ⊢
 have hA0 : (h1.size + pq.size ≤ 9223372036854775807) = True := eq_true (by omega)
 have hA1 : decide (h1.size + pq.size ≤ 9223372036854775807) = true := decide_eq_true (by omega)
 have hA2 : (9223372036854775807 < h1.size + pq.size) = False := eq_false (by omega)
 have hB0 : (h1.size + pq.size + b1.size ≤ 9223372036854775807) = True := eq_true (by omega)
 have hB1 : ((h1 ++ pq).size + b1.size ≤ 9223372036854775807) = True := eq_true (by rw [XBytes.app_size]; omega)
 have hB2 : (9223372036854775807 < (h1 ++ pq).size + b1.size) = False := eq_false (by rw [XBytes.app_size]; omega)
 have hB3 : (9223372036854775807 < h1.size + pq.size + b1.size) = False := eq_false (by omega)
 clear hz1 hPl hbl
 generalize plainF f = pf at hpl hpz HRD HWM ⊢
 subst hpl
 have HRL := Aside0.mk (read_len ((h1 ++ pq) ++ b1) (by omega))
 clear hpz
 generalize readF ((h1 ++ pq) ++ b1) = rb at HRD HWM HRL
 obtain ⟨g, gb⟩ := rb
 dsimp only at HRD HWM HRL
 have H7 := Aside0.mk h7
 clear h7
 go_enter Try.func24, Try.ntmps24
 go_upto_region 1 with (fail)
 generalize hg : World.alloc _ _ = w1
 replace S := S.new hg
 clear hg
 generalize w.heap.size = p1 at S ⊢
 replace S : Kn ok w0 [(p1, .cells #[.int .i64 1, .int .i64 f.f1, .bool f.f2, .string f.f3, .int .i64 f.f4.f0, .int .i64 f.f4.f1, .int .i64 f.f4.f2, .string f.f4.f3, .int .u64 f.f5, .slice A f.f6.length c] TFr (0, 0))] nil tt [V kSe (.slice A f.f6.length c) f.f6] w1 := S
 have f_0 : w1.cell? ⟨p1, 0, none⟩ = some (.int .i64 1) := S.cell 0 0 rfl rfl
 have f_1 : w1.cell? ⟨p1, 1, none⟩ = some (.int .i64 f.f1) := S.cell 0 1 rfl rfl
 go_upto_region 3 with (fail)
 clear f_0 f_1
 have f_0 : w1.cell? ⟨p1, 0, none⟩ = some (.int .i64 1) := S.cell 0 0 rfl rfl
 have f_1 : w1.cell? ⟨p1, 1, none⟩ = some (.int .i64 f.f1) := S.cell 0 1 rfl rfl
 have f_2 : w1.cell? ⟨p1, 2, none⟩ = some (.bool f.f2) := S.cell 0 2 rfl rfl
 have f_3 : w1.cell? ⟨p1, 3, none⟩ = some (.string f.f3) := S.cell 0 3 rfl rfl
 have f_4 : w1.cell? ⟨p1, 4, none⟩ = some (.int .i64 f.f4.f0) := S.cell 0 4 rfl rfl
 have f_5 : w1.cell? ⟨p1, 5, none⟩ = some (.int .i64 f.f4.f1) := S.cell 0 5 rfl rfl
 have f_6 : w1.cell? ⟨p1, 6, none⟩ = some (.int .i64 f.f4.f2) := S.cell 0 6 rfl rfl
 have f_7 : w1.cell? ⟨p1, 7, none⟩ = some (.string f.f4.f3) := S.cell 0 7 rfl rfl
 have f_8 : w1.cell? ⟨p1, 8, none⟩ = some (.int .u64 f.f5) := S.cell 0 8 rfl rfl
 have f_9 : w1.cell? ⟨p1, 9, none⟩ = some (.slice A f.f6.length c) := S.cell 0 9 rfl rfl
 have Yf_0 : ∀ u : Kin w1, u.at'.cell? ⟨p1, 0, none⟩ = some (.int .i64 1) := Kin.cell f_0
 have Yf_1 : ∀ u : Kin w1, u.at'.cell? ⟨p1, 1, none⟩ = some (.int .i64 f.f1) := Kin.cell f_1
 have Yf_2 : ∀ u : Kin w1, u.at'.cell? ⟨p1, 2, none⟩ = some (.bool f.f2) := Kin.cell f_2
 have Yf_3 : ∀ u : Kin w1, u.at'.cell? ⟨p1, 3, none⟩ = some (.string f.f3) := Kin.cell f_3
 have Yf_4 : ∀ u : Kin w1, u.at'.cell? ⟨p1, 4, none⟩ = some (.int .i64 f.f4.f0) := Kin.cell f_4
 have Yf_5 : ∀ u : Kin w1, u.at'.cell? ⟨p1, 5, none⟩ = some (.int .i64 f.f4.f1) := Kin.cell f_5
 have Yf_6 : ∀ u : Kin w1, u.at'.cell? ⟨p1, 6, none⟩ = some (.int .i64 f.f4.f2) := Kin.cell f_6
 have Yf_7 : ∀ u : Kin w1, u.at'.cell? ⟨p1, 7, none⟩ = some (.string f.f4.f3) := Kin.cell f_7
 have Yf_8 : ∀ u : Kin w1, u.at'.cell? ⟨p1, 8, none⟩ = some (.int .u64 f.f5) := Kin.cell f_8
 have Yf_9 : ∀ u : Kin w1, u.at'.cell? ⟨p1, 9, none⟩ = some (.slice A f.f6.length c) := Kin.cell f_9
 have HVu : ∀ u : Kin w1, (V kSe (.slice A f.f6.length c) f.f6).P u.at' (fun _ => True) := fun u => Ft.below (Ft.all (S.ft 0 rfl)) u.bel
 go_wp2_with fail
 refine region_kin (by kernel_rfl) (by kernel_rfl) ?_
 repeat (go_big_quiet_step (first | (go_at_call 38; exact Kin.call (kinds_calls _)) | (go_at_call 49; exact Kin.call (HW.out _ (HVu _))) | fail))
 refine wpQuiet_nil ?_
 rintro w2 ⟨⟨_, hb⟩, rfl⟩
 replace S := S.below hb
 clear f_0 f_1 f_2 f_3 f_4 f_5 f_6 f_7 f_8 f_9 hb
 clear HVu HW Yf_0 Yf_1 Yf_2 Yf_3 Yf_4 Yf_5 Yf_6 Yf_7 Yf_8 Yf_9
 go_upto_region 4 with (fail)
 have hcell : ∀ w' : World, Below w2.heap.size w2 w' → w'.cell? ⟨p1, 0, none⟩ = some (.int .i64 1) ∧ w'.cell? ⟨p1, 1, none⟩ = some (.int .i64 f.f1) := fun w' hb => ⟨(S.below hb).cell 0 0 rfl rfl, (S.below hb).cell 0 1 rfl rfl⟩
 have HS := Aside0.mk S
 clear S
 go_cut [6] (fun v6 wx => v6 = .string ((h1 ++ pq) ++ b1) ∧ Below w2.heap.size w2 wx)
 case first =>
  rw [show Op.convert 40 9 (Operand.tmp 39) = qconv 40 9 (Operand.tmp 39) from rfl]
  go_region_held3 (fun w' => w'.cell? ⟨p1, 0, none⟩ = some (.int .i64 1) ∧ w'.cell? ⟨p1, 1, none⟩ = some (.int .i64 f.f1)) (exact hcell _ (by with_reducible repeat (first | assumption | apply below_alloc | apply below_drew1 | exact Below.refl _ _))) (first | (go_at_call 39; (with_reducible refine (varint_Put.kn 20 HPut.out).mono ?_); rintro e zw1 ⟨rfl, hb⟩; (try have hlit := pw_cell_below hb (new0 _ _ _)); have hb1 := below_step (show Below w2.heap.size w2 _ from (by with_reducible repeat (first | assumption | apply below_alloc | apply below_drew1 | exact Below.refl _ _))) hb; clear hb))
  all_goals (go_wp2_with fail; go_meet; exact ⟨rfl, (by with_reducible repeat (first | assumption | apply below_alloc | apply below_drew1 | exact Below.refl _ _))⟩)
 case rest =>
  obtain ⟨rfl, hb⟩ := hcut
  have S := HS.out.below hb
  clear hb hcell HS hcv hA0 hA1 hA2 hB0 hB1 hB2 hB3 HPut
  replace S : Kn ok w0 [(p1, .cells #[.int .i64 1, .int .i64 f.f1, .bool f.f2, .string f.f3, .int .i64 f.f4.f0, .int .i64 f.f4.f1, .int .i64 f.f4.f2, .string f.f4.f3, .int .u64 f.f5, .slice A f.f6.length c] TFr (0, 0))] nil tt [V kSe (.slice A f.f6.length c) f.f6] wc := S
  cases b2 with
  | false =>
   have hm : mayF f = false := by cases h : mayF f with | false => rfl | true => exact absurd (HMB.out h) (by decide)
   go_wp2
   go_ret2
   refine ⟨⟨#[]⟩, ?_, ?_, S.bel⟩
   ·(rw [hm]; try rfl)
   ·intro h; rw [hm] at h; cases h
  | true =>
   go_wp2_with fail
   refine (HRD.out _).mono ?_
   rintro e w3 ⟨A2, c2, rfl, hV, hb⟩
   replace S := S.call (f := (V kSe (.slice A2 g.f6.length c2) g.f6)) hb (Ft.mono _ hV (fun k hk => Or.inr hk))
   clear hb hV HRD
   go_upto_region 8 with (fail)
   generalize hg : World.alloc _ _ = w4
   replace S := S.new hg
   clear hg
   generalize w3.heap.size = p7 at S ⊢
   replace S : Kn ok w0 [(p7, .cells #[.int .i64 g.f0, .int .i64 g.f1, .bool g.f2, .string g.f3, .int .i64 g.f4.f0, .int .i64 g.f4.f1, .int .i64 g.f4.f2, .string g.f4.f3, .int .u64 g.f5, .slice A2 g.f6.length c2] TFr (0, 0)), (p1, .cells #[.int .i64 1, .int .i64 f.f1, .bool f.f2, .string f.f3, .int .i64 f.f4.f0, .int .i64 f.f4.f1, .int .i64 f.f4.f2, .string f.f4.f3, .int .u64 f.f5, .slice A f.f6.length c] TFr (0, 0))] nil tt [V kSe (.slice A2 g.f6.length c2) g.f6, V kSe (.slice A f.f6.length c) f.f6] w4 := S
   cases gb with
   | false =>
    have hm : mayF f = false := by cases h : mayF f with | false => rfl | true => exact absurd (HWM.out.2 h).1 (by decide)
    go_wp2
    go_ret2
    refine ⟨(h1 ++ pq) ++ b1, ?_, ?_, S.bel⟩
    ·(rw [hm]; try rfl)
    ·intro h; rfl
   | true =>
    obtain ⟨r, hr, hri⟩ := HSM.out g f (by have := HRL.out; omega) (by have := HRL.out; omega)
    have hm : mayF f = r := by rw [Bool.eq_iff_iff, hri, ← HWM.out]; exact ⟨fun h => h.2, fun h => ⟨rfl, h⟩⟩
    unfold sameArgs at hr
    rw [H7.out] at hr
    have HS2 := Aside0.mk hr
    have HM := Aside0.mk hm
    clear hr hri hm
    have g_0 : w4.cell? ⟨p7, 0, none⟩ = some (.int .i64 g.f0) := S.cell 0 0 rfl rfl
    have g_1 : w4.cell? ⟨p7, 1, none⟩ = some (.int .i64 g.f1) := S.cell 0 1 rfl rfl
    have g_2 : w4.cell? ⟨p7, 2, none⟩ = some (.bool g.f2) := S.cell 0 2 rfl rfl
    have g_3 : w4.cell? ⟨p7, 3, none⟩ = some (.string g.f3) := S.cell 0 3 rfl rfl
    have g_4 : w4.cell? ⟨p7, 4, none⟩ = some (.int .i64 g.f4.f0) := S.cell 0 4 rfl rfl
    have g_5 : w4.cell? ⟨p7, 5, none⟩ = some (.int .i64 g.f4.f1) := S.cell 0 5 rfl rfl
    have g_6 : w4.cell? ⟨p7, 6, none⟩ = some (.int .i64 g.f4.f2) := S.cell 0 6 rfl rfl
    have g_7 : w4.cell? ⟨p7, 7, none⟩ = some (.string g.f4.f3) := S.cell 0 7 rfl rfl
    have g_8 : w4.cell? ⟨p7, 8, none⟩ = some (.int .u64 g.f5) := S.cell 0 8 rfl rfl
    have g_9 : w4.cell? ⟨p7, 9, none⟩ = some (.slice A2 g.f6.length c2) := S.cell 0 9 rfl rfl
    have f_0 : w4.cell? ⟨p1, 0, none⟩ = some (.int .i64 1) := S.cell 1 0 rfl rfl
    have f_1 : w4.cell? ⟨p1, 1, none⟩ = some (.int .i64 f.f1) := S.cell 1 1 rfl rfl
    have f_2 : w4.cell? ⟨p1, 2, none⟩ = some (.bool f.f2) := S.cell 1 2 rfl rfl
    have f_3 : w4.cell? ⟨p1, 3, none⟩ = some (.string f.f3) := S.cell 1 3 rfl rfl
    have f_4 : w4.cell? ⟨p1, 4, none⟩ = some (.int .i64 f.f4.f0) := S.cell 1 4 rfl rfl
    have f_5 : w4.cell? ⟨p1, 5, none⟩ = some (.int .i64 f.f4.f1) := S.cell 1 5 rfl rfl
    have f_6 : w4.cell? ⟨p1, 6, none⟩ = some (.int .i64 f.f4.f2) := S.cell 1 6 rfl rfl
    have f_7 : w4.cell? ⟨p1, 7, none⟩ = some (.string f.f4.f3) := S.cell 1 7 rfl rfl
    have f_8 : w4.cell? ⟨p1, 8, none⟩ = some (.int .u64 f.f5) := S.cell 1 8 rfl rfl
    have f_9 : w4.cell? ⟨p1, 9, none⟩ = some (.slice A f.f6.length c) := S.cell 1 9 rfl rfl
    go_wp2_with fail
    refine (frame_Same.kn 100 HS2.out (S.ft 0 rfl) (S.ft 1 rfl)).mono ?_
    rintro e w5 ⟨rfl, hb⟩
    replace S := S.below hb
    clear g_0 g_1 g_2 g_3 g_4 g_5 g_6 g_7 g_8 g_9 f_0 f_1 f_2 f_3 f_4 f_5 f_6 f_7 f_8 f_9 hb HS2
    go_wp2
    go_ret2
    refine ⟨(h1 ++ pq) ++ b1, ?_, ?_, S.bel⟩
    ·(rw [HM.out]; try rfl)
    ·intro h; rfl
set_option maxHeartbeats 8000000 in
theorem write_k2 (ok : Nat → Prop) (f : Fr) (A : Option Addr) (c : Nat) (w0 w : World) (S : Kn ok w0 [] nil tt [V kSe (.slice A f.f6.length c) f.f6] w) (h7 : f.f0 = 2) (hl : f.f6.length ≤ 40) (hz : ∀ x ∈ f.f6, x.f0.size ≤ 9223372036854775807) (hn : f.f3.size ≤ 9223372036854775807) (hs0 : 0 ≤ f.f1) (hs1 : f.f1 ≤ 1099511627776) (h5 : 0 ≤ f.f5 ∧ f.f5 < 18446744073709551616) :
  Calls Try.prog 24 #[.agg #[.int .i64 2, .int .i64 f.f1, .bool f.f2, .string f.f3, .int .i64 f.f4.f0, .int .i64 f.f4.f1, .int .i64 f.f4.f2, .string f.f4.f3, .int .u64 f.f5, .slice A f.f6.length c]] w fun e w' => ∃ t, e = .returned (.tuple #[.string t, .bool (mayF f)]) ∧ (mayF f = true → t = plainF f) ∧ Below w0.heap.size w0 w' := by
 have HW : ∀ z : World, (V kSe (.slice A f.f6.length c) f.f6).P z (fun _ => True) → Calls Try.prog 51 #[.agg #[.int .i64 2, .int .i64 f.f1, .bool f.f2, .string f.f3, .int .i64 f.f4.f0, .int .i64 f.f4.f1, .int .i64 f.f4.f2, .string f.f4.f3, .int .u64 f.f5, .slice A f.f6.length c]] z fun e w' => e = .returned (.tuple #[.string (bodyF f).1, .bool (bodyF f).2]) ∧ Below z.heap.size z w' := fun z g => by
  have h := frame_sum.kn (r1 := (bodyF f).1) (r2 := (bodyF f).2) 100 (fsum_b 100 f (by omega) h7) g
  rw [h7] at h
  exact h
 replace HW := Aside0.mk HW
 have HMB := Aside0.mk (fun h : mayF f = true => (may_body h).1)
 have HWM := Aside0.mk (write_may f (by omega) h5)
 have hbl := body_le f
 have hPl := XV01.P_le f.f1
 have hpl : plainF f = (strOfNums [2] ++ P f.f1) ++ (bodyF f).1 := by show (strOfNums [f.f0 % 256] ++ P f.f1) ++ (bodyF f).1 = _; rw [h7]; rfl
 have hpz := plain_le hs0 hs1
 have HRD := Aside0.mk (fun z => read_calls (plainF f) (by omega) z)
 have HSM := Aside0.mk (sameF_b 100)
 have HLN := Aside0.mk hl
 have HPut := Aside0.mk (XV01.put_f 20 f.f1 hs0 (by omega) (by omega))
 have hw1 : IntKind.u64.wrap f.f1 = f.f1 := XVar.wrap_u64 _ hs0 (by omega)
 have hs0b : decide (f.f1 < 0) = false := decide_eq_false (by omega)
 have hs1b : decide (f.f1 > 1099511627776) = false := decide_eq_false (by omega)
 have hs1d : decide (1099511627776 < f.f1) = false := decide_eq_false (by omega)
 clear h5 hz hn hs0 hs1 hl
 generalize hb : bodyF f = bo at HW HMB hpl hbl
 clear hb
 obtain ⟨b1, b2⟩ := bo
 dsimp only at HW HMB hpl hbl
 generalize P f.f1 = pq at HPut hpl hPl
 have hcv : ∀ (g : Nat) (w : World), w.cell? ⟨g, 0, none⟩ = some (.int .u8 (IntKind.u8.wrap 2)) → (convert 40 9 (.slice (some ⟨g, 0, none⟩) 1 1)).run Try.prog w = .ok (.string (strOfNums [2])) w := fun g w h => conv1 2 g w (h.trans (by rw [IntKind.wrap_u8]; rfl))
 have hz1 := one_nums 2
 generalize strOfNums [2] = h1 at hcv hz1 hpl ⊢
 have hA0 : (h1.size + pq.size ≤ 9223372036854775807) = True := eq_true (by omega)
 have hA1 : decide (h1.size + pq.size ≤ 9223372036854775807) = true := decide_eq_true (by omega)
 have hA2 : (9223372036854775807 < h1.size + pq.size) = False := eq_false (by omega)
 have hB0 : (h1.size + pq.size + b1.size ≤ 9223372036854775807) = True := eq_true (by omega)
 have hB1 : ((h1 ++ pq).size + b1.size ≤ 9223372036854775807) = True := eq_true (by rw [XBytes.app_size]; omega)
 have hB2 : (9223372036854775807 < (h1 ++ pq).size + b1.size) = False := eq_false (by rw [XBytes.app_size]; omega)
 have hB3 : (9223372036854775807 < h1.size + pq.size + b1.size) = False := eq_false (by omega)
 clear hz1 hPl hbl
 generalize plainF f = pf at hpl hpz HRD HWM ⊢
 subst hpl
 have HRL := Aside0.mk (read_len ((h1 ++ pq) ++ b1) (by omega))
 clear hpz
 generalize readF ((h1 ++ pq) ++ b1) = rb at HRD HWM HRL
 obtain ⟨g, gb⟩ := rb
 dsimp only at HRD HWM HRL
 have H7 := Aside0.mk h7
 clear h7
 go_enter Try.func24, Try.ntmps24
 go_upto_region 1 with (fail)
 generalize hg : World.alloc _ _ = w1
 replace S := S.new hg
 clear hg
 generalize w.heap.size = p1 at S ⊢
 replace S : Kn ok w0 [(p1, .cells #[.int .i64 2, .int .i64 f.f1, .bool f.f2, .string f.f3, .int .i64 f.f4.f0, .int .i64 f.f4.f1, .int .i64 f.f4.f2, .string f.f4.f3, .int .u64 f.f5, .slice A f.f6.length c] TFr (0, 0))] nil tt [V kSe (.slice A f.f6.length c) f.f6] w1 := S
 have f_0 : w1.cell? ⟨p1, 0, none⟩ = some (.int .i64 2) := S.cell 0 0 rfl rfl
 have f_1 : w1.cell? ⟨p1, 1, none⟩ = some (.int .i64 f.f1) := S.cell 0 1 rfl rfl
 go_upto_region 3 with (fail)
 clear f_0 f_1
 have f_0 : w1.cell? ⟨p1, 0, none⟩ = some (.int .i64 2) := S.cell 0 0 rfl rfl
 have f_1 : w1.cell? ⟨p1, 1, none⟩ = some (.int .i64 f.f1) := S.cell 0 1 rfl rfl
 have f_2 : w1.cell? ⟨p1, 2, none⟩ = some (.bool f.f2) := S.cell 0 2 rfl rfl
 have f_3 : w1.cell? ⟨p1, 3, none⟩ = some (.string f.f3) := S.cell 0 3 rfl rfl
 have f_4 : w1.cell? ⟨p1, 4, none⟩ = some (.int .i64 f.f4.f0) := S.cell 0 4 rfl rfl
 have f_5 : w1.cell? ⟨p1, 5, none⟩ = some (.int .i64 f.f4.f1) := S.cell 0 5 rfl rfl
 have f_6 : w1.cell? ⟨p1, 6, none⟩ = some (.int .i64 f.f4.f2) := S.cell 0 6 rfl rfl
 have f_7 : w1.cell? ⟨p1, 7, none⟩ = some (.string f.f4.f3) := S.cell 0 7 rfl rfl
 have f_8 : w1.cell? ⟨p1, 8, none⟩ = some (.int .u64 f.f5) := S.cell 0 8 rfl rfl
 have f_9 : w1.cell? ⟨p1, 9, none⟩ = some (.slice A f.f6.length c) := S.cell 0 9 rfl rfl
 have Yf_0 : ∀ u : Kin w1, u.at'.cell? ⟨p1, 0, none⟩ = some (.int .i64 2) := Kin.cell f_0
 have Yf_1 : ∀ u : Kin w1, u.at'.cell? ⟨p1, 1, none⟩ = some (.int .i64 f.f1) := Kin.cell f_1
 have Yf_2 : ∀ u : Kin w1, u.at'.cell? ⟨p1, 2, none⟩ = some (.bool f.f2) := Kin.cell f_2
 have Yf_3 : ∀ u : Kin w1, u.at'.cell? ⟨p1, 3, none⟩ = some (.string f.f3) := Kin.cell f_3
 have Yf_4 : ∀ u : Kin w1, u.at'.cell? ⟨p1, 4, none⟩ = some (.int .i64 f.f4.f0) := Kin.cell f_4
 have Yf_5 : ∀ u : Kin w1, u.at'.cell? ⟨p1, 5, none⟩ = some (.int .i64 f.f4.f1) := Kin.cell f_5
 have Yf_6 : ∀ u : Kin w1, u.at'.cell? ⟨p1, 6, none⟩ = some (.int .i64 f.f4.f2) := Kin.cell f_6
 have Yf_7 : ∀ u : Kin w1, u.at'.cell? ⟨p1, 7, none⟩ = some (.string f.f4.f3) := Kin.cell f_7
 have Yf_8 : ∀ u : Kin w1, u.at'.cell? ⟨p1, 8, none⟩ = some (.int .u64 f.f5) := Kin.cell f_8
 have Yf_9 : ∀ u : Kin w1, u.at'.cell? ⟨p1, 9, none⟩ = some (.slice A f.f6.length c) := Kin.cell f_9
 have HVu : ∀ u : Kin w1, (V kSe (.slice A f.f6.length c) f.f6).P u.at' (fun _ => True) := fun u => Ft.below (Ft.all (S.ft 0 rfl)) u.bel
 go_wp2_with fail
 refine region_kin (by kernel_rfl) (by kernel_rfl) ?_
 repeat (go_big_quiet_step (first | (go_at_call 38; exact Kin.call (kinds_calls _)) | (go_at_call 51; exact Kin.call (HW.out _ (HVu _))) | fail))
 refine wpQuiet_nil ?_
 rintro w2 ⟨⟨_, hb⟩, rfl⟩
 replace S := S.below hb
 clear f_0 f_1 f_2 f_3 f_4 f_5 f_6 f_7 f_8 f_9 hb
 clear HVu HW Yf_0 Yf_1 Yf_2 Yf_3 Yf_4 Yf_5 Yf_6 Yf_7 Yf_8 Yf_9
 go_upto_region 4 with (fail)
 have hcell : ∀ w' : World, Below w2.heap.size w2 w' → w'.cell? ⟨p1, 0, none⟩ = some (.int .i64 2) ∧ w'.cell? ⟨p1, 1, none⟩ = some (.int .i64 f.f1) := fun w' hb => ⟨(S.below hb).cell 0 0 rfl rfl, (S.below hb).cell 0 1 rfl rfl⟩
 have HS := Aside0.mk S
 clear S
 go_cut [6] (fun v6 wx => v6 = .string ((h1 ++ pq) ++ b1) ∧ Below w2.heap.size w2 wx)
 case first =>
  rw [show Op.convert 40 9 (Operand.tmp 39) = qconv 40 9 (Operand.tmp 39) from rfl]
  go_region_held3 (fun w' => w'.cell? ⟨p1, 0, none⟩ = some (.int .i64 2) ∧ w'.cell? ⟨p1, 1, none⟩ = some (.int .i64 f.f1)) (exact hcell _ (by with_reducible repeat (first | assumption | apply below_alloc | apply below_drew1 | exact Below.refl _ _))) (first | (go_at_call 39; (with_reducible refine (varint_Put.kn 20 HPut.out).mono ?_); rintro e zw1 ⟨rfl, hb⟩; (try have hlit := pw_cell_below hb (new0 _ _ _)); have hb1 := below_step (show Below w2.heap.size w2 _ from (by with_reducible repeat (first | assumption | apply below_alloc | apply below_drew1 | exact Below.refl _ _))) hb; clear hb))
  all_goals (go_wp2_with fail; go_meet; exact ⟨rfl, (by with_reducible repeat (first | assumption | apply below_alloc | apply below_drew1 | exact Below.refl _ _))⟩)
 case rest =>
  obtain ⟨rfl, hb⟩ := hcut
  have S := HS.out.below hb
  clear hb hcell HS hcv hA0 hA1 hA2 hB0 hB1 hB2 hB3 HPut
  replace S : Kn ok w0 [(p1, .cells #[.int .i64 2, .int .i64 f.f1, .bool f.f2, .string f.f3, .int .i64 f.f4.f0, .int .i64 f.f4.f1, .int .i64 f.f4.f2, .string f.f4.f3, .int .u64 f.f5, .slice A f.f6.length c] TFr (0, 0))] nil tt [V kSe (.slice A f.f6.length c) f.f6] wc := S
  cases b2 with
  | false =>
   have hm : mayF f = false := by cases h : mayF f with | false => rfl | true => exact absurd (HMB.out h) (by decide)
   go_wp2
   go_ret2
   refine ⟨⟨#[]⟩, ?_, ?_, S.bel⟩
   ·(rw [hm]; try rfl)
   ·intro h; rw [hm] at h; cases h
  | true =>
   go_wp2_with fail
   refine (HRD.out _).mono ?_
   rintro e w3 ⟨A2, c2, rfl, hV, hb⟩
   replace S := S.call (f := (V kSe (.slice A2 g.f6.length c2) g.f6)) hb (Ft.mono _ hV (fun k hk => Or.inr hk))
   clear hb hV HRD
   go_upto_region 8 with (fail)
   generalize hg : World.alloc _ _ = w4
   replace S := S.new hg
   clear hg
   generalize w3.heap.size = p7 at S ⊢
   replace S : Kn ok w0 [(p7, .cells #[.int .i64 g.f0, .int .i64 g.f1, .bool g.f2, .string g.f3, .int .i64 g.f4.f0, .int .i64 g.f4.f1, .int .i64 g.f4.f2, .string g.f4.f3, .int .u64 g.f5, .slice A2 g.f6.length c2] TFr (0, 0)), (p1, .cells #[.int .i64 2, .int .i64 f.f1, .bool f.f2, .string f.f3, .int .i64 f.f4.f0, .int .i64 f.f4.f1, .int .i64 f.f4.f2, .string f.f4.f3, .int .u64 f.f5, .slice A f.f6.length c] TFr (0, 0))] nil tt [V kSe (.slice A2 g.f6.length c2) g.f6, V kSe (.slice A f.f6.length c) f.f6] w4 := S
   cases gb with
   | false =>
    have hm : mayF f = false := by cases h : mayF f with | false => rfl | true => exact absurd (HWM.out.2 h).1 (by decide)
    go_wp2
    go_ret2
    refine ⟨(h1 ++ pq) ++ b1, ?_, ?_, S.bel⟩
    ·(rw [hm]; try rfl)
    ·intro h; rfl
   | true =>
    obtain ⟨r, hr, hri⟩ := HSM.out g f (by have := HRL.out; omega) (by have := HRL.out; omega)
    have hm : mayF f = r := by rw [Bool.eq_iff_iff, hri, ← HWM.out]; exact ⟨fun h => h.2, fun h => ⟨rfl, h⟩⟩
    unfold sameArgs at hr
    rw [H7.out] at hr
    have HS2 := Aside0.mk hr
    have HM := Aside0.mk hm
    clear hr hri hm
    have g_0 : w4.cell? ⟨p7, 0, none⟩ = some (.int .i64 g.f0) := S.cell 0 0 rfl rfl
    have g_1 : w4.cell? ⟨p7, 1, none⟩ = some (.int .i64 g.f1) := S.cell 0 1 rfl rfl
    have g_2 : w4.cell? ⟨p7, 2, none⟩ = some (.bool g.f2) := S.cell 0 2 rfl rfl
    have g_3 : w4.cell? ⟨p7, 3, none⟩ = some (.string g.f3) := S.cell 0 3 rfl rfl
    have g_4 : w4.cell? ⟨p7, 4, none⟩ = some (.int .i64 g.f4.f0) := S.cell 0 4 rfl rfl
    have g_5 : w4.cell? ⟨p7, 5, none⟩ = some (.int .i64 g.f4.f1) := S.cell 0 5 rfl rfl
    have g_6 : w4.cell? ⟨p7, 6, none⟩ = some (.int .i64 g.f4.f2) := S.cell 0 6 rfl rfl
    have g_7 : w4.cell? ⟨p7, 7, none⟩ = some (.string g.f4.f3) := S.cell 0 7 rfl rfl
    have g_8 : w4.cell? ⟨p7, 8, none⟩ = some (.int .u64 g.f5) := S.cell 0 8 rfl rfl
    have g_9 : w4.cell? ⟨p7, 9, none⟩ = some (.slice A2 g.f6.length c2) := S.cell 0 9 rfl rfl
    have f_0 : w4.cell? ⟨p1, 0, none⟩ = some (.int .i64 2) := S.cell 1 0 rfl rfl
    have f_1 : w4.cell? ⟨p1, 1, none⟩ = some (.int .i64 f.f1) := S.cell 1 1 rfl rfl
    have f_2 : w4.cell? ⟨p1, 2, none⟩ = some (.bool f.f2) := S.cell 1 2 rfl rfl
    have f_3 : w4.cell? ⟨p1, 3, none⟩ = some (.string f.f3) := S.cell 1 3 rfl rfl
    have f_4 : w4.cell? ⟨p1, 4, none⟩ = some (.int .i64 f.f4.f0) := S.cell 1 4 rfl rfl
    have f_5 : w4.cell? ⟨p1, 5, none⟩ = some (.int .i64 f.f4.f1) := S.cell 1 5 rfl rfl
    have f_6 : w4.cell? ⟨p1, 6, none⟩ = some (.int .i64 f.f4.f2) := S.cell 1 6 rfl rfl
    have f_7 : w4.cell? ⟨p1, 7, none⟩ = some (.string f.f4.f3) := S.cell 1 7 rfl rfl
    have f_8 : w4.cell? ⟨p1, 8, none⟩ = some (.int .u64 f.f5) := S.cell 1 8 rfl rfl
    have f_9 : w4.cell? ⟨p1, 9, none⟩ = some (.slice A f.f6.length c) := S.cell 1 9 rfl rfl
    go_wp2_with fail
    refine (frame_Same.kn 100 HS2.out (S.ft 0 rfl) (S.ft 1 rfl)).mono ?_
    rintro e w5 ⟨rfl, hb⟩
    replace S := S.below hb
    clear g_0 g_1 g_2 g_3 g_4 g_5 g_6 g_7 g_8 g_9 f_0 f_1 f_2 f_3 f_4 f_5 f_6 f_7 f_8 f_9 hb HS2
    go_wp2
    go_ret2
    refine ⟨(h1 ++ pq) ++ b1, ?_, ?_, S.bel⟩
    ·(rw [HM.out]; try rfl)
    ·intro h; rfl
set_option maxHeartbeats 8000000 in
theorem write_k3 (ok : Nat → Prop) (f : Fr) (A : Option Addr) (c : Nat) (w0 w : World) (S : Kn ok w0 [] nil tt [V kSe (.slice A f.f6.length c) f.f6] w) (h7 : f.f0 = 3) (hl : f.f6.length ≤ 40) (hz : ∀ x ∈ f.f6, x.f0.size ≤ 9223372036854775807) (hn : f.f3.size ≤ 9223372036854775807) (hs0 : 0 ≤ f.f1) (hs1 : f.f1 ≤ 1099511627776) (h5 : 0 ≤ f.f5 ∧ f.f5 < 18446744073709551616) :
  Calls Try.prog 24 #[.agg #[.int .i64 3, .int .i64 f.f1, .bool f.f2, .string f.f3, .int .i64 f.f4.f0, .int .i64 f.f4.f1, .int .i64 f.f4.f2, .string f.f4.f3, .int .u64 f.f5, .slice A f.f6.length c]] w fun e w' => ∃ t, e = .returned (.tuple #[.string t, .bool (mayF f)]) ∧ (mayF f = true → t = plainF f) ∧ Below w0.heap.size w0 w' := by
 have HW : ∀ z : World, (V kSe (.slice A f.f6.length c) f.f6).P z (fun _ => True) → Calls Try.prog 53 #[.agg #[.int .i64 3, .int .i64 f.f1, .bool f.f2, .string f.f3, .int .i64 f.f4.f0, .int .i64 f.f4.f1, .int .i64 f.f4.f2, .string f.f4.f3, .int .u64 f.f5, .slice A f.f6.length c]] z fun e w' => e = .returned (.tuple #[.string (bodyF f).1, .bool (bodyF f).2]) ∧ Below z.heap.size z w' := fun z g => by
  have h := wr3 (fun _ => True) f A c z z (Kn.enter _ z (fun q hq => by simp only [List.mem_singleton] at hq; subst hq; exact g)) h7 hl hz
  rw [h7] at h
  exact h
 replace HW := Aside0.mk HW
 have HMB := Aside0.mk (fun h : mayF f = true => (may_body h).1)
 have HWM := Aside0.mk (write_may f (by omega) h5)
 have hbl := body_le f
 have hPl := XV01.P_le f.f1
 have hpl : plainF f = (strOfNums [3] ++ P f.f1) ++ (bodyF f).1 := by show (strOfNums [f.f0 % 256] ++ P f.f1) ++ (bodyF f).1 = _; rw [h7]; rfl
 have hpz := plain_le hs0 hs1
 have HRD := Aside0.mk (fun z => read_calls (plainF f) (by omega) z)
 have HSM := Aside0.mk (sameF_b 100)
 have HLN := Aside0.mk hl
 have HPut := Aside0.mk (XV01.put_f 20 f.f1 hs0 (by omega) (by omega))
 have hw1 : IntKind.u64.wrap f.f1 = f.f1 := XVar.wrap_u64 _ hs0 (by omega)
 have hs0b : decide (f.f1 < 0) = false := decide_eq_false (by omega)
 have hs1b : decide (f.f1 > 1099511627776) = false := decide_eq_false (by omega)
 have hs1d : decide (1099511627776 < f.f1) = false := decide_eq_false (by omega)
 clear h5 hz hn hs0 hs1 hl
 generalize hb : bodyF f = bo at HW HMB hpl hbl
 clear hb
 obtain ⟨b1, b2⟩ := bo
 dsimp only at HW HMB hpl hbl
 generalize P f.f1 = pq at HPut hpl hPl
 have hcv : ∀ (g : Nat) (w : World), w.cell? ⟨g, 0, none⟩ = some (.int .u8 (IntKind.u8.wrap 3)) → (convert 40 9 (.slice (some ⟨g, 0, none⟩) 1 1)).run Try.prog w = .ok (.string (strOfNums [3])) w := fun g w h => conv1 3 g w (h.trans (by rw [IntKind.wrap_u8]; rfl))
 have hz1 := one_nums 3
 generalize strOfNums [3] = h1 at hcv hz1 hpl ⊢
 have hA0 : (h1.size + pq.size ≤ 9223372036854775807) = True := eq_true (by omega)
 have hA1 : decide (h1.size + pq.size ≤ 9223372036854775807) = true := decide_eq_true (by omega)
 have hA2 : (9223372036854775807 < h1.size + pq.size) = False := eq_false (by omega)
 have hB0 : (h1.size + pq.size + b1.size ≤ 9223372036854775807) = True := eq_true (by omega)
 have hB1 : ((h1 ++ pq).size + b1.size ≤ 9223372036854775807) = True := eq_true (by rw [XBytes.app_size]; omega)
 have hB2 : (9223372036854775807 < (h1 ++ pq).size + b1.size) = False := eq_false (by rw [XBytes.app_size]; omega)
 have hB3 : (9223372036854775807 < h1.size + pq.size + b1.size) = False := eq_false (by omega)
 clear hz1 hPl hbl
 generalize plainF f = pf at hpl hpz HRD HWM ⊢
 subst hpl
 have HRL := Aside0.mk (read_len ((h1 ++ pq) ++ b1) (by omega))
 clear hpz
 generalize readF ((h1 ++ pq) ++ b1) = rb at HRD HWM HRL
 obtain ⟨g, gb⟩ := rb
 dsimp only at HRD HWM HRL
 have H7 := Aside0.mk h7
 clear h7
 go_enter Try.func24, Try.ntmps24
 go_upto_region 1 with (fail)
 generalize hg : World.alloc _ _ = w1
 replace S := S.new hg
 clear hg
 generalize w.heap.size = p1 at S ⊢
 replace S : Kn ok w0 [(p1, .cells #[.int .i64 3, .int .i64 f.f1, .bool f.f2, .string f.f3, .int .i64 f.f4.f0, .int .i64 f.f4.f1, .int .i64 f.f4.f2, .string f.f4.f3, .int .u64 f.f5, .slice A f.f6.length c] TFr (0, 0))] nil tt [V kSe (.slice A f.f6.length c) f.f6] w1 := S
 have f_0 : w1.cell? ⟨p1, 0, none⟩ = some (.int .i64 3) := S.cell 0 0 rfl rfl
 have f_1 : w1.cell? ⟨p1, 1, none⟩ = some (.int .i64 f.f1) := S.cell 0 1 rfl rfl
 go_upto_region 3 with (fail)
 clear f_0 f_1
 have f_0 : w1.cell? ⟨p1, 0, none⟩ = some (.int .i64 3) := S.cell 0 0 rfl rfl
 have f_1 : w1.cell? ⟨p1, 1, none⟩ = some (.int .i64 f.f1) := S.cell 0 1 rfl rfl
 have f_2 : w1.cell? ⟨p1, 2, none⟩ = some (.bool f.f2) := S.cell 0 2 rfl rfl
 have f_3 : w1.cell? ⟨p1, 3, none⟩ = some (.string f.f3) := S.cell 0 3 rfl rfl
 have f_4 : w1.cell? ⟨p1, 4, none⟩ = some (.int .i64 f.f4.f0) := S.cell 0 4 rfl rfl
 have f_5 : w1.cell? ⟨p1, 5, none⟩ = some (.int .i64 f.f4.f1) := S.cell 0 5 rfl rfl
 have f_6 : w1.cell? ⟨p1, 6, none⟩ = some (.int .i64 f.f4.f2) := S.cell 0 6 rfl rfl
 have f_7 : w1.cell? ⟨p1, 7, none⟩ = some (.string f.f4.f3) := S.cell 0 7 rfl rfl
 have f_8 : w1.cell? ⟨p1, 8, none⟩ = some (.int .u64 f.f5) := S.cell 0 8 rfl rfl
 have f_9 : w1.cell? ⟨p1, 9, none⟩ = some (.slice A f.f6.length c) := S.cell 0 9 rfl rfl
 have Yf_0 : ∀ u : Kin w1, u.at'.cell? ⟨p1, 0, none⟩ = some (.int .i64 3) := Kin.cell f_0
 have Yf_1 : ∀ u : Kin w1, u.at'.cell? ⟨p1, 1, none⟩ = some (.int .i64 f.f1) := Kin.cell f_1
 have Yf_2 : ∀ u : Kin w1, u.at'.cell? ⟨p1, 2, none⟩ = some (.bool f.f2) := Kin.cell f_2
 have Yf_3 : ∀ u : Kin w1, u.at'.cell? ⟨p1, 3, none⟩ = some (.string f.f3) := Kin.cell f_3
 have Yf_4 : ∀ u : Kin w1, u.at'.cell? ⟨p1, 4, none⟩ = some (.int .i64 f.f4.f0) := Kin.cell f_4
 have Yf_5 : ∀ u : Kin w1, u.at'.cell? ⟨p1, 5, none⟩ = some (.int .i64 f.f4.f1) := Kin.cell f_5
 have Yf_6 : ∀ u : Kin w1, u.at'.cell? ⟨p1, 6, none⟩ = some (.int .i64 f.f4.f2) := Kin.cell f_6
 have Yf_7 : ∀ u : Kin w1, u.at'.cell? ⟨p1, 7, none⟩ = some (.string f.f4.f3) := Kin.cell f_7
 have Yf_8 : ∀ u : Kin w1, u.at'.cell? ⟨p1, 8, none⟩ = some (.int .u64 f.f5) := Kin.cell f_8
 have Yf_9 : ∀ u : Kin w1, u.at'.cell? ⟨p1, 9, none⟩ = some (.slice A f.f6.length c) := Kin.cell f_9
 have HVu : ∀ u : Kin w1, (V kSe (.slice A f.f6.length c) f.f6).P u.at' (fun _ => True) := fun u => Ft.below (Ft.all (S.ft 0 rfl)) u.bel
 go_wp2_with fail
 refine region_kin (by kernel_rfl) (by kernel_rfl) ?_
 repeat (go_big_quiet_step (first | (go_at_call 38; exact Kin.call (kinds_calls _)) | (go_at_call 53; exact Kin.call (HW.out _ (HVu _))) | fail))
 refine wpQuiet_nil ?_
 rintro w2 ⟨⟨_, hb⟩, rfl⟩
 replace S := S.below hb
 clear f_0 f_1 f_2 f_3 f_4 f_5 f_6 f_7 f_8 f_9 hb
 clear HVu HW Yf_0 Yf_1 Yf_2 Yf_3 Yf_4 Yf_5 Yf_6 Yf_7 Yf_8 Yf_9
 go_upto_region 4 with (fail)
 have hcell : ∀ w' : World, Below w2.heap.size w2 w' → w'.cell? ⟨p1, 0, none⟩ = some (.int .i64 3) ∧ w'.cell? ⟨p1, 1, none⟩ = some (.int .i64 f.f1) := fun w' hb => ⟨(S.below hb).cell 0 0 rfl rfl, (S.below hb).cell 0 1 rfl rfl⟩
 have HS := Aside0.mk S
 clear S
 go_cut [6] (fun v6 wx => v6 = .string ((h1 ++ pq) ++ b1) ∧ Below w2.heap.size w2 wx)
 case first =>
  rw [show Op.convert 40 9 (Operand.tmp 39) = qconv 40 9 (Operand.tmp 39) from rfl]
  go_region_held3 (fun w' => w'.cell? ⟨p1, 0, none⟩ = some (.int .i64 3) ∧ w'.cell? ⟨p1, 1, none⟩ = some (.int .i64 f.f1)) (exact hcell _ (by with_reducible repeat (first | assumption | apply below_alloc | apply below_drew1 | exact Below.refl _ _))) (first | (go_at_call 39; (with_reducible refine (varint_Put.kn 20 HPut.out).mono ?_); rintro e zw1 ⟨rfl, hb⟩; (try have hlit := pw_cell_below hb (new0 _ _ _)); have hb1 := below_step (show Below w2.heap.size w2 _ from (by with_reducible repeat (first | assumption | apply below_alloc | apply below_drew1 | exact Below.refl _ _))) hb; clear hb))
  all_goals (go_wp2_with fail; go_meet; exact ⟨rfl, (by with_reducible repeat (first | assumption | apply below_alloc | apply below_drew1 | exact Below.refl _ _))⟩)
 case rest =>
  obtain ⟨rfl, hb⟩ := hcut
  have S := HS.out.below hb
  clear hb hcell HS hcv hA0 hA1 hA2 hB0 hB1 hB2 hB3 HPut
  replace S : Kn ok w0 [(p1, .cells #[.int .i64 3, .int .i64 f.f1, .bool f.f2, .string f.f3, .int .i64 f.f4.f0, .int .i64 f.f4.f1, .int .i64 f.f4.f2, .string f.f4.f3, .int .u64 f.f5, .slice A f.f6.length c] TFr (0, 0))] nil tt [V kSe (.slice A f.f6.length c) f.f6] wc := S
  cases b2 with
  | false =>
   have hm : mayF f = false := by cases h : mayF f with | false => rfl | true => exact absurd (HMB.out h) (by decide)
   go_wp2
   go_ret2
   refine ⟨⟨#[]⟩, ?_, ?_, S.bel⟩
   ·(rw [hm]; try rfl)
   ·intro h; rw [hm] at h; cases h
  | true =>
   go_wp2_with fail
   refine (HRD.out _).mono ?_
   rintro e w3 ⟨A2, c2, rfl, hV, hb⟩
   replace S := S.call (f := (V kSe (.slice A2 g.f6.length c2) g.f6)) hb (Ft.mono _ hV (fun k hk => Or.inr hk))
   clear hb hV HRD
   go_upto_region 8 with (fail)
   generalize hg : World.alloc _ _ = w4
   replace S := S.new hg
   clear hg
   generalize w3.heap.size = p7 at S ⊢
   replace S : Kn ok w0 [(p7, .cells #[.int .i64 g.f0, .int .i64 g.f1, .bool g.f2, .string g.f3, .int .i64 g.f4.f0, .int .i64 g.f4.f1, .int .i64 g.f4.f2, .string g.f4.f3, .int .u64 g.f5, .slice A2 g.f6.length c2] TFr (0, 0)), (p1, .cells #[.int .i64 3, .int .i64 f.f1, .bool f.f2, .string f.f3, .int .i64 f.f4.f0, .int .i64 f.f4.f1, .int .i64 f.f4.f2, .string f.f4.f3, .int .u64 f.f5, .slice A f.f6.length c] TFr (0, 0))] nil tt [V kSe (.slice A2 g.f6.length c2) g.f6, V kSe (.slice A f.f6.length c) f.f6] w4 := S
   cases gb with
   | false =>
    have hm : mayF f = false := by cases h : mayF f with | false => rfl | true => exact absurd (HWM.out.2 h).1 (by decide)
    go_wp2
    go_ret2
    refine ⟨(h1 ++ pq) ++ b1, ?_, ?_, S.bel⟩
    ·(rw [hm]; try rfl)
    ·intro h; rfl
   | true =>
    obtain ⟨r, hr, hri⟩ := HSM.out g f (by have := HRL.out; omega) (by have := HRL.out; omega)
    have hm : mayF f = r := by rw [Bool.eq_iff_iff, hri, ← HWM.out]; exact ⟨fun h => h.2, fun h => ⟨rfl, h⟩⟩
    unfold sameArgs at hr
    rw [H7.out] at hr
    have HS2 := Aside0.mk hr
    have HM := Aside0.mk hm
    clear hr hri hm
    have g_0 : w4.cell? ⟨p7, 0, none⟩ = some (.int .i64 g.f0) := S.cell 0 0 rfl rfl
    have g_1 : w4.cell? ⟨p7, 1, none⟩ = some (.int .i64 g.f1) := S.cell 0 1 rfl rfl
    have g_2 : w4.cell? ⟨p7, 2, none⟩ = some (.bool g.f2) := S.cell 0 2 rfl rfl
    have g_3 : w4.cell? ⟨p7, 3, none⟩ = some (.string g.f3) := S.cell 0 3 rfl rfl
    have g_4 : w4.cell? ⟨p7, 4, none⟩ = some (.int .i64 g.f4.f0) := S.cell 0 4 rfl rfl
    have g_5 : w4.cell? ⟨p7, 5, none⟩ = some (.int .i64 g.f4.f1) := S.cell 0 5 rfl rfl
    have g_6 : w4.cell? ⟨p7, 6, none⟩ = some (.int .i64 g.f4.f2) := S.cell 0 6 rfl rfl
    have g_7 : w4.cell? ⟨p7, 7, none⟩ = some (.string g.f4.f3) := S.cell 0 7 rfl rfl
    have g_8 : w4.cell? ⟨p7, 8, none⟩ = some (.int .u64 g.f5) := S.cell 0 8 rfl rfl
    have g_9 : w4.cell? ⟨p7, 9, none⟩ = some (.slice A2 g.f6.length c2) := S.cell 0 9 rfl rfl
    have f_0 : w4.cell? ⟨p1, 0, none⟩ = some (.int .i64 3) := S.cell 1 0 rfl rfl
    have f_1 : w4.cell? ⟨p1, 1, none⟩ = some (.int .i64 f.f1) := S.cell 1 1 rfl rfl
    have f_2 : w4.cell? ⟨p1, 2, none⟩ = some (.bool f.f2) := S.cell 1 2 rfl rfl
    have f_3 : w4.cell? ⟨p1, 3, none⟩ = some (.string f.f3) := S.cell 1 3 rfl rfl
    have f_4 : w4.cell? ⟨p1, 4, none⟩ = some (.int .i64 f.f4.f0) := S.cell 1 4 rfl rfl
    have f_5 : w4.cell? ⟨p1, 5, none⟩ = some (.int .i64 f.f4.f1) := S.cell 1 5 rfl rfl
    have f_6 : w4.cell? ⟨p1, 6, none⟩ = some (.int .i64 f.f4.f2) := S.cell 1 6 rfl rfl
    have f_7 : w4.cell? ⟨p1, 7, none⟩ = some (.string f.f4.f3) := S.cell 1 7 rfl rfl
    have f_8 : w4.cell? ⟨p1, 8, none⟩ = some (.int .u64 f.f5) := S.cell 1 8 rfl rfl
    have f_9 : w4.cell? ⟨p1, 9, none⟩ = some (.slice A f.f6.length c) := S.cell 1 9 rfl rfl
    go_wp2_with fail
    refine (frame_Same.kn 100 HS2.out (S.ft 0 rfl) (S.ft 1 rfl)).mono ?_
    rintro e w5 ⟨rfl, hb⟩
    replace S := S.below hb
    clear g_0 g_1 g_2 g_3 g_4 g_5 g_6 g_7 g_8 g_9 f_0 f_1 f_2 f_3 f_4 f_5 f_6 f_7 f_8 f_9 hb HS2
    go_wp2
    go_ret2
    refine ⟨(h1 ++ pq) ++ b1, ?_, ?_, S.bel⟩
    ·(rw [HM.out]; try rfl)
    ·intro h; rfl
set_option maxHeartbeats 8000000 in
theorem write_k4 (ok : Nat → Prop) (f : Fr) (A : Option Addr) (c : Nat) (w0 w : World) (S : Kn ok w0 [] nil tt [V kSe (.slice A f.f6.length c) f.f6] w) (h7 : f.f0 = 4) (hl : f.f6.length ≤ 40) (hz : ∀ x ∈ f.f6, x.f0.size ≤ 9223372036854775807) (hn : f.f3.size ≤ 9223372036854775807) (hs0 : 0 ≤ f.f1) (hs1 : f.f1 ≤ 1099511627776) (h5 : 0 ≤ f.f5 ∧ f.f5 < 18446744073709551616) :
  Calls Try.prog 24 #[.agg #[.int .i64 4, .int .i64 f.f1, .bool f.f2, .string f.f3, .int .i64 f.f4.f0, .int .i64 f.f4.f1, .int .i64 f.f4.f2, .string f.f4.f3, .int .u64 f.f5, .slice A f.f6.length c]] w fun e w' => ∃ t, e = .returned (.tuple #[.string t, .bool (mayF f)]) ∧ (mayF f = true → t = plainF f) ∧ Below w0.heap.size w0 w' := by
 have HW : ∀ z : World, (V kSe (.slice A f.f6.length c) f.f6).P z (fun _ => True) → Calls Try.prog 57 #[.agg #[.int .i64 4, .int .i64 f.f1, .bool f.f2, .string f.f3, .int .i64 f.f4.f0, .int .i64 f.f4.f1, .int .i64 f.f4.f2, .string f.f4.f3, .int .u64 f.f5, .slice A f.f6.length c]] z fun e w' => e = .returned (.tuple #[.string (bodyF f).1, .bool (bodyF f).2]) ∧ Below z.heap.size z w' := fun z g => by
  have h := wr4 (fun _ => True) f A c z z (Kn.enter _ z (fun q hq => by simp only [List.mem_singleton] at hq; subst hq; exact g)) h7 hl hz
  rw [h7] at h
  exact h
 replace HW := Aside0.mk HW
 have HMB := Aside0.mk (fun h : mayF f = true => (may_body h).1)
 have HWM := Aside0.mk (write_may f (by omega) h5)
 have hbl := body_le f
 have hPl := XV01.P_le f.f1
 have hpl : plainF f = (strOfNums [4] ++ P f.f1) ++ (bodyF f).1 := by show (strOfNums [f.f0 % 256] ++ P f.f1) ++ (bodyF f).1 = _; rw [h7]; rfl
 have hpz := plain_le hs0 hs1
 have HRD := Aside0.mk (fun z => read_calls (plainF f) (by omega) z)
 have HSM := Aside0.mk (sameF_b 100)
 have HLN := Aside0.mk hl
 have HPut := Aside0.mk (XV01.put_f 20 f.f1 hs0 (by omega) (by omega))
 have hw1 : IntKind.u64.wrap f.f1 = f.f1 := XVar.wrap_u64 _ hs0 (by omega)
 have hs0b : decide (f.f1 < 0) = false := decide_eq_false (by omega)
 have hs1b : decide (f.f1 > 1099511627776) = false := decide_eq_false (by omega)
 have hs1d : decide (1099511627776 < f.f1) = false := decide_eq_false (by omega)
 clear h5 hz hn hs0 hs1 hl
 generalize hb : bodyF f = bo at HW HMB hpl hbl
 clear hb
 obtain ⟨b1, b2⟩ := bo
 dsimp only at HW HMB hpl hbl
 generalize P f.f1 = pq at HPut hpl hPl
 have hcv : ∀ (g : Nat) (w : World), w.cell? ⟨g, 0, none⟩ = some (.int .u8 (IntKind.u8.wrap 4)) → (convert 40 9 (.slice (some ⟨g, 0, none⟩) 1 1)).run Try.prog w = .ok (.string (strOfNums [4])) w := fun g w h => conv1 4 g w (h.trans (by rw [IntKind.wrap_u8]; rfl))
 have hz1 := one_nums 4
 generalize strOfNums [4] = h1 at hcv hz1 hpl ⊢
 have hA0 : (h1.size + pq.size ≤ 9223372036854775807) = True := eq_true (by omega)
 have hA1 : decide (h1.size + pq.size ≤ 9223372036854775807) = true := decide_eq_true (by omega)
 have hA2 : (9223372036854775807 < h1.size + pq.size) = False := eq_false (by omega)
 have hB0 : (h1.size + pq.size + b1.size ≤ 9223372036854775807) = True := eq_true (by omega)
 have hB1 : ((h1 ++ pq).size + b1.size ≤ 9223372036854775807) = True := eq_true (by rw [XBytes.app_size]; omega)
 have hB2 : (9223372036854775807 < (h1 ++ pq).size + b1.size) = False := eq_false (by rw [XBytes.app_size]; omega)
 have hB3 : (9223372036854775807 < h1.size + pq.size + b1.size) = False := eq_false (by omega)
 clear hz1 hPl hbl
 generalize plainF f = pf at hpl hpz HRD HWM ⊢
 subst hpl
 have HRL := Aside0.mk (read_len ((h1 ++ pq) ++ b1) (by omega))
 clear hpz
 generalize readF ((h1 ++ pq) ++ b1) = rb at HRD HWM HRL
 obtain ⟨g, gb⟩ := rb
 dsimp only at HRD HWM HRL
 have H7 := Aside0.mk h7
 clear h7
 go_enter Try.func24, Try.ntmps24
 go_upto_region 1 with (fail)
 generalize hg : World.alloc _ _ = w1
 replace S := S.new hg
 clear hg
 generalize w.heap.size = p1 at S ⊢
 replace S : Kn ok w0 [(p1, .cells #[.int .i64 4, .int .i64 f.f1, .bool f.f2, .string f.f3, .int .i64 f.f4.f0, .int .i64 f.f4.f1, .int .i64 f.f4.f2, .string f.f4.f3, .int .u64 f.f5, .slice A f.f6.length c] TFr (0, 0))] nil tt [V kSe (.slice A f.f6.length c) f.f6] w1 := S
 have f_0 : w1.cell? ⟨p1, 0, none⟩ = some (.int .i64 4) := S.cell 0 0 rfl rfl
 have f_1 : w1.cell? ⟨p1, 1, none⟩ = some (.int .i64 f.f1) := S.cell 0 1 rfl rfl
 go_upto_region 3 with (fail)
 clear f_0 f_1
 have f_0 : w1.cell? ⟨p1, 0, none⟩ = some (.int .i64 4) := S.cell 0 0 rfl rfl
 have f_1 : w1.cell? ⟨p1, 1, none⟩ = some (.int .i64 f.f1) := S.cell 0 1 rfl rfl
 have f_2 : w1.cell? ⟨p1, 2, none⟩ = some (.bool f.f2) := S.cell 0 2 rfl rfl
 have f_3 : w1.cell? ⟨p1, 3, none⟩ = some (.string f.f3) := S.cell 0 3 rfl rfl
 have f_4 : w1.cell? ⟨p1, 4, none⟩ = some (.int .i64 f.f4.f0) := S.cell 0 4 rfl rfl
 have f_5 : w1.cell? ⟨p1, 5, none⟩ = some (.int .i64 f.f4.f1) := S.cell 0 5 rfl rfl
 have f_6 : w1.cell? ⟨p1, 6, none⟩ = some (.int .i64 f.f4.f2) := S.cell 0 6 rfl rfl
 have f_7 : w1.cell? ⟨p1, 7, none⟩ = some (.string f.f4.f3) := S.cell 0 7 rfl rfl
 have f_8 : w1.cell? ⟨p1, 8, none⟩ = some (.int .u64 f.f5) := S.cell 0 8 rfl rfl
 have f_9 : w1.cell? ⟨p1, 9, none⟩ = some (.slice A f.f6.length c) := S.cell 0 9 rfl rfl
 have Yf_0 : ∀ u : Kin w1, u.at'.cell? ⟨p1, 0, none⟩ = some (.int .i64 4) := Kin.cell f_0
 have Yf_1 : ∀ u : Kin w1, u.at'.cell? ⟨p1, 1, none⟩ = some (.int .i64 f.f1) := Kin.cell f_1
 have Yf_2 : ∀ u : Kin w1, u.at'.cell? ⟨p1, 2, none⟩ = some (.bool f.f2) := Kin.cell f_2
 have Yf_3 : ∀ u : Kin w1, u.at'.cell? ⟨p1, 3, none⟩ = some (.string f.f3) := Kin.cell f_3
 have Yf_4 : ∀ u : Kin w1, u.at'.cell? ⟨p1, 4, none⟩ = some (.int .i64 f.f4.f0) := Kin.cell f_4
 have Yf_5 : ∀ u : Kin w1, u.at'.cell? ⟨p1, 5, none⟩ = some (.int .i64 f.f4.f1) := Kin.cell f_5
 have Yf_6 : ∀ u : Kin w1, u.at'.cell? ⟨p1, 6, none⟩ = some (.int .i64 f.f4.f2) := Kin.cell f_6
 have Yf_7 : ∀ u : Kin w1, u.at'.cell? ⟨p1, 7, none⟩ = some (.string f.f4.f3) := Kin.cell f_7
 have Yf_8 : ∀ u : Kin w1, u.at'.cell? ⟨p1, 8, none⟩ = some (.int .u64 f.f5) := Kin.cell f_8
 have Yf_9 : ∀ u : Kin w1, u.at'.cell? ⟨p1, 9, none⟩ = some (.slice A f.f6.length c) := Kin.cell f_9
 have HVu : ∀ u : Kin w1, (V kSe (.slice A f.f6.length c) f.f6).P u.at' (fun _ => True) := fun u => Ft.below (Ft.all (S.ft 0 rfl)) u.bel
 go_wp2_with fail
 refine region_kin (by kernel_rfl) (by kernel_rfl) ?_
 repeat (go_big_quiet_step (first | (go_at_call 38; exact Kin.call (kinds_calls _)) | (go_at_call 57; exact Kin.call (HW.out _ (HVu _))) | fail))
 refine wpQuiet_nil ?_
 rintro w2 ⟨⟨_, hb⟩, rfl⟩
 replace S := S.below hb
 clear f_0 f_1 f_2 f_3 f_4 f_5 f_6 f_7 f_8 f_9 hb
 clear HVu HW Yf_0 Yf_1 Yf_2 Yf_3 Yf_4 Yf_5 Yf_6 Yf_7 Yf_8 Yf_9
 go_upto_region 4 with (fail)
 have hcell : ∀ w' : World, Below w2.heap.size w2 w' → w'.cell? ⟨p1, 0, none⟩ = some (.int .i64 4) ∧ w'.cell? ⟨p1, 1, none⟩ = some (.int .i64 f.f1) := fun w' hb => ⟨(S.below hb).cell 0 0 rfl rfl, (S.below hb).cell 0 1 rfl rfl⟩
 have HS := Aside0.mk S
 clear S
 go_cut [6] (fun v6 wx => v6 = .string ((h1 ++ pq) ++ b1) ∧ Below w2.heap.size w2 wx)
 case first =>
  rw [show Op.convert 40 9 (Operand.tmp 39) = qconv 40 9 (Operand.tmp 39) from rfl]
  go_region_held3 (fun w' => w'.cell? ⟨p1, 0, none⟩ = some (.int .i64 4) ∧ w'.cell? ⟨p1, 1, none⟩ = some (.int .i64 f.f1)) (exact hcell _ (by with_reducible repeat (first | assumption | apply below_alloc | apply below_drew1 | exact Below.refl _ _))) (first | (go_at_call 39; (with_reducible refine (varint_Put.kn 20 HPut.out).mono ?_); rintro e zw1 ⟨rfl, hb⟩; (try have hlit := pw_cell_below hb (new0 _ _ _)); have hb1 := below_step (show Below w2.heap.size w2 _ from (by with_reducible repeat (first | assumption | apply below_alloc | apply below_drew1 | exact Below.refl _ _))) hb; clear hb))
  all_goals (go_wp2_with fail; go_meet; exact ⟨rfl, (by with_reducible repeat (first | assumption | apply below_alloc | apply below_drew1 | exact Below.refl _ _))⟩)
 case rest =>
  obtain ⟨rfl, hb⟩ := hcut
  have S := HS.out.below hb
  clear hb hcell HS hcv hA0 hA1 hA2 hB0 hB1 hB2 hB3 HPut
  replace S : Kn ok w0 [(p1, .cells #[.int .i64 4, .int .i64 f.f1, .bool f.f2, .string f.f3, .int .i64 f.f4.f0, .int .i64 f.f4.f1, .int .i64 f.f4.f2, .string f.f4.f3, .int .u64 f.f5, .slice A f.f6.length c] TFr (0, 0))] nil tt [V kSe (.slice A f.f6.length c) f.f6] wc := S
  cases b2 with
  | false =>
   have hm : mayF f = false := by cases h : mayF f with | false => rfl | true => exact absurd (HMB.out h) (by decide)
   go_wp2
   go_ret2
   refine ⟨⟨#[]⟩, ?_, ?_, S.bel⟩
   ·(rw [hm]; try rfl)
   ·intro h; rw [hm] at h; cases h
  | true =>
   go_wp2_with fail
   refine (HRD.out _).mono ?_
   rintro e w3 ⟨A2, c2, rfl, hV, hb⟩
   replace S := S.call (f := (V kSe (.slice A2 g.f6.length c2) g.f6)) hb (Ft.mono _ hV (fun k hk => Or.inr hk))
   clear hb hV HRD
   go_upto_region 8 with (fail)
   generalize hg : World.alloc _ _ = w4
   replace S := S.new hg
   clear hg
   generalize w3.heap.size = p7 at S ⊢
   replace S : Kn ok w0 [(p7, .cells #[.int .i64 g.f0, .int .i64 g.f1, .bool g.f2, .string g.f3, .int .i64 g.f4.f0, .int .i64 g.f4.f1, .int .i64 g.f4.f2, .string g.f4.f3, .int .u64 g.f5, .slice A2 g.f6.length c2] TFr (0, 0)), (p1, .cells #[.int .i64 4, .int .i64 f.f1, .bool f.f2, .string f.f3, .int .i64 f.f4.f0, .int .i64 f.f4.f1, .int .i64 f.f4.f2, .string f.f4.f3, .int .u64 f.f5, .slice A f.f6.length c] TFr (0, 0))] nil tt [V kSe (.slice A2 g.f6.length c2) g.f6, V kSe (.slice A f.f6.length c) f.f6] w4 := S
   cases gb with
   | false =>
    have hm : mayF f = false := by cases h : mayF f with | false => rfl | true => exact absurd (HWM.out.2 h).1 (by decide)
    go_wp2
    go_ret2
    refine ⟨(h1 ++ pq) ++ b1, ?_, ?_, S.bel⟩
    ·(rw [hm]; try rfl)
    ·intro h; rfl
   | true =>
    obtain ⟨r, hr, hri⟩ := HSM.out g f (by have := HRL.out; omega) (by have := HRL.out; omega)
    have hm : mayF f = r := by rw [Bool.eq_iff_iff, hri, ← HWM.out]; exact ⟨fun h => h.2, fun h => ⟨rfl, h⟩⟩
    unfold sameArgs at hr
    rw [H7.out] at hr
    have HS2 := Aside0.mk hr
    have HM := Aside0.mk hm
    clear hr hri hm
    have g_0 : w4.cell? ⟨p7, 0, none⟩ = some (.int .i64 g.f0) := S.cell 0 0 rfl rfl
    have g_1 : w4.cell? ⟨p7, 1, none⟩ = some (.int .i64 g.f1) := S.cell 0 1 rfl rfl
    have g_2 : w4.cell? ⟨p7, 2, none⟩ = some (.bool g.f2) := S.cell 0 2 rfl rfl
    have g_3 : w4.cell? ⟨p7, 3, none⟩ = some (.string g.f3) := S.cell 0 3 rfl rfl
    have g_4 : w4.cell? ⟨p7, 4, none⟩ = some (.int .i64 g.f4.f0) := S.cell 0 4 rfl rfl
    have g_5 : w4.cell? ⟨p7, 5, none⟩ = some (.int .i64 g.f4.f1) := S.cell 0 5 rfl rfl
    have g_6 : w4.cell? ⟨p7, 6, none⟩ = some (.int .i64 g.f4.f2) := S.cell 0 6 rfl rfl
    have g_7 : w4.cell? ⟨p7, 7, none⟩ = some (.string g.f4.f3) := S.cell 0 7 rfl rfl
    have g_8 : w4.cell? ⟨p7, 8, none⟩ = some (.int .u64 g.f5) := S.cell 0 8 rfl rfl
    have g_9 : w4.cell? ⟨p7, 9, none⟩ = some (.slice A2 g.f6.length c2) := S.cell 0 9 rfl rfl
    have f_0 : w4.cell? ⟨p1, 0, none⟩ = some (.int .i64 4) := S.cell 1 0 rfl rfl
    have f_1 : w4.cell? ⟨p1, 1, none⟩ = some (.int .i64 f.f1) := S.cell 1 1 rfl rfl
    have f_2 : w4.cell? ⟨p1, 2, none⟩ = some (.bool f.f2) := S.cell 1 2 rfl rfl
    have f_3 : w4.cell? ⟨p1, 3, none⟩ = some (.string f.f3) := S.cell 1 3 rfl rfl
    have f_4 : w4.cell? ⟨p1, 4, none⟩ = some (.int .i64 f.f4.f0) := S.cell 1 4 rfl rfl
    have f_5 : w4.cell? ⟨p1, 5, none⟩ = some (.int .i64 f.f4.f1) := S.cell 1 5 rfl rfl
    have f_6 : w4.cell? ⟨p1, 6, none⟩ = some (.int .i64 f.f4.f2) := S.cell 1 6 rfl rfl
    have f_7 : w4.cell? ⟨p1, 7, none⟩ = some (.string f.f4.f3) := S.cell 1 7 rfl rfl
    have f_8 : w4.cell? ⟨p1, 8, none⟩ = some (.int .u64 f.f5) := S.cell 1 8 rfl rfl
    have f_9 : w4.cell? ⟨p1, 9, none⟩ = some (.slice A f.f6.length c) := S.cell 1 9 rfl rfl
    go_wp2_with fail
    refine (frame_Same.kn 100 HS2.out (S.ft 0 rfl) (S.ft 1 rfl)).mono ?_
    rintro e w5 ⟨rfl, hb⟩
    replace S := S.below hb
    clear g_0 g_1 g_2 g_3 g_4 g_5 g_6 g_7 g_8 g_9 f_0 f_1 f_2 f_3 f_4 f_5 f_6 f_7 f_8 f_9 hb HS2
    go_wp2
    go_ret2
    refine ⟨(h1 ++ pq) ++ b1, ?_, ?_, S.bel⟩
    ·(rw [HM.out]; try rfl)
    ·intro h; rfl
end Go.Proofs.Ytjccgdnnnlgeeaa.XFr
end

section
/- frame's write of all kinds, May, Encode and Decode, walked. -/
namespace Go.Proofs.Ytjccgdnnnlgeeaa.XFr
open Go.RowKit Go.Proofs.YtjccgdnnnlgeeaaW.PrintWords Go.Proofs.YtjccgdnnnlgeeaaW.PrintLast Go.Proofs.YtjccgdnnnlgeeaaW.PrintMore Go.Proofs.Ytjccgdnnnlgeeaa.PA Go.Proofs.Ytjccgdnnnlgeeaa.XMem Go.Proofs.Ytjccgdnnnlgeeaa.XSt Go.Proofs.Ytjccgdnnnlgeeaa.XQuiet Go.Proofs.Ytjccgdnnnlgeeaa.XKn
open Go.Proofs.Ytjccgdnnnlgeeaa.XSum (Se kSe)
open Go.Proofs.Ytjccgdnnnlgeeaa.XCrc (sealB openB)
set_option linter.unusedVariables false
set_option linter.unusedSimpArgs false
set_option maxRecDepth 100000

set_option maxHeartbeats 8000000 in
theorem write_go (ok : Nat → Prop) (f : Fr) (A : Option Addr) (c : Nat) (w0 w : World) (S : Kn ok w0 [] nil tt [V kSe (.slice A f.f6.length c) f.f6] w) (hl : f.f6.length ≤ 40) (hz : ∀ x ∈ f.f6, x.f0.size ≤ 9223372036854775807) (hn : f.f3.size ≤ 9223372036854775807) (h5 : 0 ≤ f.f5 ∧ f.f5 < 18446744073709551616) :
  Calls Try.prog 24 #[.agg #[.int .i64 f.f0, .int .i64 f.f1, .bool f.f2, .string f.f3, .int .i64 f.f4.f0, .int .i64 f.f4.f1, .int .i64 f.f4.f2, .string f.f4.f3, .int .u64 f.f5, .slice A f.f6.length c]] w fun e w' => ∃ t, e = .returned (.tuple #[.string t, .bool (mayF f)]) ∧ (mayF f = true → t = plainF f) ∧ Below w0.heap.size w0 w' := by
 by_cases hr : 1 ≤ f.f0 ∧ f.f0 ≤ 4 ∧ 0 ≤ f.f1 ∧ f.f1 ≤ 1099511627776
 ·have hk : f.f0 = 1 ∨ f.f0 = 2 ∨ f.f0 = 3 ∨ f.f0 = 4 := by omega
  rcases hk with h7 | h7 | h7 | h7
  ·have h := write_k1 ok f A c w0 w S h7 hl hz hn hr.2.2.1 hr.2.2.2 h5
   rw [← h7] at h
   exact h
  ·have h := write_k2 ok f A c w0 w S h7 hl hz hn hr.2.2.1 hr.2.2.2 h5
   rw [← h7] at h
   exact h
  ·have h := write_k3 ok f A c w0 w S h7 hl hz hn hr.2.2.1 hr.2.2.2 h5
   rw [← h7] at h
   exact h
  ·have h := write_k4 ok f A c w0 w S h7 hl hz hn hr.2.2.1 hr.2.2.2 h5
   rw [← h7] at h
   exact h
 have hm : mayF f = false := by cases h : mayF f with | false => rfl | true => exact absurd (may_body h).2 hr
 clear hl hz hn h5
 by_cases c1 : f.f0 < 1
 ·have c1b : decide (f.f0 < 1) = true := decide_eq_true c1
  clear hr c1
  go_enter Try.func24, Try.ntmps24
  go_upto_region 1 with (fail)
  generalize hg : World.alloc _ _ = w1
  replace S := S.new hg
  clear hg
  generalize w.heap.size = p1 at S ⊢
  replace S : Kn ok w0 [(p1, .cells #[.int .i64 f.f0, .int .i64 f.f1, .bool f.f2, .string f.f3, .int .i64 f.f4.f0, .int .i64 f.f4.f1, .int .i64 f.f4.f2, .string f.f4.f3, .int .u64 f.f5, .slice A f.f6.length c] TFr (0, 0))] nil tt [V kSe (.slice A f.f6.length c) f.f6] w1 := S
  have f_0 : w1.cell? ⟨p1, 0, none⟩ = some (.int .i64 f.f0) := S.cell 0 0 rfl rfl
  have f_1 : w1.cell? ⟨p1, 1, none⟩ = some (.int .i64 f.f1) := S.cell 0 1 rfl rfl
  go_wp2
  go_ret2
  refine ⟨⟨#[]⟩, ?_, ?_, S.bel⟩
  ·(rw [hm]; try rfl)
  ·intro h; rw [hm] at h; cases h
 have c1b : decide (f.f0 < 1) = false := decide_eq_false c1
 by_cases c2 : f.f0 > 4
 ·have c2b : decide (f.f0 > 4) = true := decide_eq_true c2
  have c2d : decide (4 < f.f0) = true := decide_eq_true c2
  clear hr c1 c2
  go_enter Try.func24, Try.ntmps24
  go_upto_region 1 with (fail)
  generalize hg : World.alloc _ _ = w1
  replace S := S.new hg
  clear hg
  generalize w.heap.size = p1 at S ⊢
  replace S : Kn ok w0 [(p1, .cells #[.int .i64 f.f0, .int .i64 f.f1, .bool f.f2, .string f.f3, .int .i64 f.f4.f0, .int .i64 f.f4.f1, .int .i64 f.f4.f2, .string f.f4.f3, .int .u64 f.f5, .slice A f.f6.length c] TFr (0, 0))] nil tt [V kSe (.slice A f.f6.length c) f.f6] w1 := S
  have f_0 : w1.cell? ⟨p1, 0, none⟩ = some (.int .i64 f.f0) := S.cell 0 0 rfl rfl
  have f_1 : w1.cell? ⟨p1, 1, none⟩ = some (.int .i64 f.f1) := S.cell 0 1 rfl rfl
  go_wp2
  go_ret2
  refine ⟨⟨#[]⟩, ?_, ?_, S.bel⟩
  ·(rw [hm]; try rfl)
  ·intro h; rw [hm] at h; cases h
 have c2b : decide (f.f0 > 4) = false := decide_eq_false c2
 have c2d : decide (4 < f.f0) = false := decide_eq_false c2
 by_cases c3 : f.f1 < 0
 ·have c3b : decide (f.f1 < 0) = true := decide_eq_true c3
  clear hr c1 c2 c3
  go_enter Try.func24, Try.ntmps24
  go_upto_region 1 with (fail)
  generalize hg : World.alloc _ _ = w1
  replace S := S.new hg
  clear hg
  generalize w.heap.size = p1 at S ⊢
  replace S : Kn ok w0 [(p1, .cells #[.int .i64 f.f0, .int .i64 f.f1, .bool f.f2, .string f.f3, .int .i64 f.f4.f0, .int .i64 f.f4.f1, .int .i64 f.f4.f2, .string f.f4.f3, .int .u64 f.f5, .slice A f.f6.length c] TFr (0, 0))] nil tt [V kSe (.slice A f.f6.length c) f.f6] w1 := S
  have f_0 : w1.cell? ⟨p1, 0, none⟩ = some (.int .i64 f.f0) := S.cell 0 0 rfl rfl
  have f_1 : w1.cell? ⟨p1, 1, none⟩ = some (.int .i64 f.f1) := S.cell 0 1 rfl rfl
  go_wp2
  go_ret2
  refine ⟨⟨#[]⟩, ?_, ?_, S.bel⟩
  ·(rw [hm]; try rfl)
  ·intro h; rw [hm] at h; cases h
 have c3b : decide (f.f1 < 0) = false := decide_eq_false c3
 have c4 : f.f1 > 1099511627776 := by omega
 have c4b : decide (f.f1 > 1099511627776) = true := decide_eq_true c4
 have c4d : decide (1099511627776 < f.f1) = true := decide_eq_true c4
 clear hr c1 c2 c3 c4
 go_enter Try.func24, Try.ntmps24
 go_upto_region 1 with (fail)
 generalize hg : World.alloc _ _ = w1
 replace S := S.new hg
 clear hg
 generalize w.heap.size = p1 at S ⊢
 replace S : Kn ok w0 [(p1, .cells #[.int .i64 f.f0, .int .i64 f.f1, .bool f.f2, .string f.f3, .int .i64 f.f4.f0, .int .i64 f.f4.f1, .int .i64 f.f4.f2, .string f.f4.f3, .int .u64 f.f5, .slice A f.f6.length c] TFr (0, 0))] nil tt [V kSe (.slice A f.f6.length c) f.f6] w1 := S
 have f_0 : w1.cell? ⟨p1, 0, none⟩ = some (.int .i64 f.f0) := S.cell 0 0 rfl rfl
 have f_1 : w1.cell? ⟨p1, 1, none⟩ = some (.int .i64 f.f1) := S.cell 0 1 rfl rfl
 go_wp2
 go_ret2
 refine ⟨⟨#[]⟩, ?_, ?_, S.bel⟩
 ·(rw [hm]; try rfl)
 ·intro h; rw [hm] at h; cases h
set_option maxHeartbeats 4000000 in
theorem may_go (ok : Nat → Prop) (f : Fr) (A : Option Addr) (c : Nat) (w0 w : World) (S : Kn ok w0 [] nil tt [V kSe (.slice A f.f6.length c) f.f6] w) (hl : f.f6.length ≤ 40) (hz : ∀ x ∈ f.f6, x.f0.size ≤ 9223372036854775807) (hn : f.f3.size ≤ 9223372036854775807) (h5 : 0 ≤ f.f5 ∧ f.f5 < 18446744073709551616) :
  Calls Try.prog 13 #[.agg #[.int .i64 f.f0, .int .i64 f.f1, .bool f.f2, .string f.f3, .int .i64 f.f4.f0, .int .i64 f.f4.f1, .int .i64 f.f4.f2, .string f.f4.f3, .int .u64 f.f5, .slice A f.f6.length c]] w fun e w' => e = .returned (.bool (mayF f)) ∧ Below w0.heap.size w0 w' := by
 have HW := Aside0.mk (fun (z : World) (g : (V kSe (.slice A f.f6.length c) f.f6).P z (fun _ => True)) => write_go (fun _ => True) f A c z z (Kn.enter _ z (fun q hq => by simp only [List.mem_singleton] at hq; subst hq; exact g)) hl hz hn h5)
 generalize mayF f = m at HW ⊢
 clear hl hz hn h5
 go_enter Try.func13, Try.ntmps13
 go_upto_region 1 with (fail)
 generalize hg : World.alloc _ _ = w1
 replace S := S.new hg
 clear hg
 generalize w.heap.size = p1 at S ⊢
 replace S : Kn ok w0 [(p1, .cells #[.int .i64 f.f0, .int .i64 f.f1, .bool f.f2, .string f.f3, .int .i64 f.f4.f0, .int .i64 f.f4.f1, .int .i64 f.f4.f2, .string f.f4.f3, .int .u64 f.f5, .slice A f.f6.length c] TFr (0, 0))] nil tt [V kSe (.slice A f.f6.length c) f.f6] w1 := S
 have f_0 : w1.cell? ⟨p1, 0, none⟩ = some (.int .i64 f.f0) := S.cell 0 0 rfl rfl
 have f_1 : w1.cell? ⟨p1, 1, none⟩ = some (.int .i64 f.f1) := S.cell 0 1 rfl rfl
 have f_2 : w1.cell? ⟨p1, 2, none⟩ = some (.bool f.f2) := S.cell 0 2 rfl rfl
 have f_3 : w1.cell? ⟨p1, 3, none⟩ = some (.string f.f3) := S.cell 0 3 rfl rfl
 have f_4 : w1.cell? ⟨p1, 4, none⟩ = some (.int .i64 f.f4.f0) := S.cell 0 4 rfl rfl
 have f_5 : w1.cell? ⟨p1, 5, none⟩ = some (.int .i64 f.f4.f1) := S.cell 0 5 rfl rfl
 have f_6 : w1.cell? ⟨p1, 6, none⟩ = some (.int .i64 f.f4.f2) := S.cell 0 6 rfl rfl
 have f_7 : w1.cell? ⟨p1, 7, none⟩ = some (.string f.f4.f3) := S.cell 0 7 rfl rfl
 have f_8 : w1.cell? ⟨p1, 8, none⟩ = some (.int .u64 f.f5) := S.cell 0 8 rfl rfl
 have f_9 : w1.cell? ⟨p1, 9, none⟩ = some (.slice A f.f6.length c) := S.cell 0 9 rfl rfl
 go_wp2_with fail
 refine (HW.out _ (Ft.all (S.ft 0 rfl))).mono ?_
 rintro e w2 ⟨t, rfl, _, hb⟩
 replace S := S.below hb
 clear f_0 f_1 f_2 f_3 f_4 f_5 f_6 f_7 f_8 f_9 hb HW
 go_wp2
 go_ret
 exact ⟨rfl, S.bel⟩
theorem may_kn {ok : Nat → Prop} {f : Fr} {A : Option Addr} {c : Nat} {w : World} (hl : f.f6.length ≤ 40) (hz : ∀ x ∈ f.f6, x.f0.size ≤ 9223372036854775807) (hn : f.f3.size ≤ 9223372036854775807) (h5 : 0 ≤ f.f5 ∧ f.f5 < 18446744073709551616) (g : (V kSe (.slice A f.f6.length c) f.f6).P w ok) :
  Calls Try.prog 13 #[.agg #[.int .i64 f.f0, .int .i64 f.f1, .bool f.f2, .string f.f3, .int .i64 f.f4.f0, .int .i64 f.f4.f1, .int .i64 f.f4.f2, .string f.f4.f3, .int .u64 f.f5, .slice A f.f6.length c]] w fun e w' => e = .returned (.bool (mayF f)) ∧ Below w.heap.size w w' :=
 may_go ok f A c w w (Kn.enter _ w (fun q hq => by simp only [List.mem_singleton] at hq; subst hq; exact g)) hl hz hn h5
set_option maxHeartbeats 4000000 in
theorem enc_go (ok : Nat → Prop) (f : Fr) (A : Option Addr) (c : Nat) (w0 w : World) (S : Kn ok w0 [] nil tt [V kSe (.slice A f.f6.length c) f.f6] w) (hl : f.f6.length ≤ 40) (hz : ∀ x ∈ f.f6, x.f0.size ≤ 9223372036854775807) (hn : f.f3.size ≤ 9223372036854775807) (h5 : 0 ≤ f.f5 ∧ f.f5 < 18446744073709551616) :
  Calls Try.prog 11 #[.agg #[.int .i64 f.f0, .int .i64 f.f1, .bool f.f2, .string f.f3, .int .i64 f.f4.f0, .int .i64 f.f4.f1, .int .i64 f.f4.f2, .string f.f4.f3, .int .u64 f.f5, .slice A f.f6.length c]] w fun e w' => e = .returned (.tuple #[.string (encF f).1, .int .i64 (encF f).2]) ∧ Below w0.heap.size w0 w' := by
 have HW := Aside0.mk (fun (z : World) (g : (V kSe (.slice A f.f6.length c) f.f6).P z (fun _ => True)) => write_go (fun _ => True) f A c z z (Kn.enter _ z (fun q hq => by simp only [List.mem_singleton] at hq; subst hq; exact g)) hl hz hn h5)
 have HSL := Aside0.mk (fun (h : mayF f = true) (z : World) => XCrc.seal_calls (plainF f) (by have := (may_body h).2; have := plain_le this.2.2.1 this.2.2.2; omega) z)
 unfold encF
 by_cases hm : mayF f = true
 ·simp only [if_pos hm]
  have HM := Aside0.mk hm
  rw [hm] at HW
  clear hm hl hz hn h5
  go_enter Try.func11, Try.ntmps11
  go_upto_region 1 with (fail)
  generalize hg : World.alloc _ _ = w1
  replace S := S.new hg
  clear hg
  generalize w.heap.size = p1 at S ⊢
  replace S : Kn ok w0 [(p1, .cells #[.int .i64 f.f0, .int .i64 f.f1, .bool f.f2, .string f.f3, .int .i64 f.f4.f0, .int .i64 f.f4.f1, .int .i64 f.f4.f2, .string f.f4.f3, .int .u64 f.f5, .slice A f.f6.length c] TFr (0, 0))] nil tt [V kSe (.slice A f.f6.length c) f.f6] w1 := S
  have f_0 : w1.cell? ⟨p1, 0, none⟩ = some (.int .i64 f.f0) := S.cell 0 0 rfl rfl
  have f_1 : w1.cell? ⟨p1, 1, none⟩ = some (.int .i64 f.f1) := S.cell 0 1 rfl rfl
  have f_2 : w1.cell? ⟨p1, 2, none⟩ = some (.bool f.f2) := S.cell 0 2 rfl rfl
  have f_3 : w1.cell? ⟨p1, 3, none⟩ = some (.string f.f3) := S.cell 0 3 rfl rfl
  have f_4 : w1.cell? ⟨p1, 4, none⟩ = some (.int .i64 f.f4.f0) := S.cell 0 4 rfl rfl
  have f_5 : w1.cell? ⟨p1, 5, none⟩ = some (.int .i64 f.f4.f1) := S.cell 0 5 rfl rfl
  have f_6 : w1.cell? ⟨p1, 6, none⟩ = some (.int .i64 f.f4.f2) := S.cell 0 6 rfl rfl
  have f_7 : w1.cell? ⟨p1, 7, none⟩ = some (.string f.f4.f3) := S.cell 0 7 rfl rfl
  have f_8 : w1.cell? ⟨p1, 8, none⟩ = some (.int .u64 f.f5) := S.cell 0 8 rfl rfl
  have f_9 : w1.cell? ⟨p1, 9, none⟩ = some (.slice A f.f6.length c) := S.cell 0 9 rfl rfl
  go_wp2_with fail
  refine (HW.out _ (Ft.all (S.ft 0 rfl))).mono ?_
  rintro e w2 ⟨t, rfl, ht, hb⟩
  replace S := S.below hb
  clear f_0 f_1 f_2 f_3 f_4 f_5 f_6 f_7 f_8 f_9 hb HW
  have ht2 := ht (by first | rfl | trivial)
  subst ht2
  clear ht
  go_wp2_with fail
  refine (HSL.out HM.out _).mono ?_
  rintro e w3 ⟨rfl, hb⟩
  replace S := S.below hb
  clear hb HSL HM
  go_wp2
  go_ret2
  exact ⟨by first | rfl | trivial, S.bel⟩
 simp only [if_neg hm]
 rw [Bool.eq_false_iff.mpr hm] at HW
 clear HSL hm hl hz hn h5
 go_enter Try.func11, Try.ntmps11
 go_upto_region 1 with (fail)
 generalize hg : World.alloc _ _ = w1
 replace S := S.new hg
 clear hg
 generalize w.heap.size = p1 at S ⊢
 replace S : Kn ok w0 [(p1, .cells #[.int .i64 f.f0, .int .i64 f.f1, .bool f.f2, .string f.f3, .int .i64 f.f4.f0, .int .i64 f.f4.f1, .int .i64 f.f4.f2, .string f.f4.f3, .int .u64 f.f5, .slice A f.f6.length c] TFr (0, 0))] nil tt [V kSe (.slice A f.f6.length c) f.f6] w1 := S
 have f_0 : w1.cell? ⟨p1, 0, none⟩ = some (.int .i64 f.f0) := S.cell 0 0 rfl rfl
 have f_1 : w1.cell? ⟨p1, 1, none⟩ = some (.int .i64 f.f1) := S.cell 0 1 rfl rfl
 have f_2 : w1.cell? ⟨p1, 2, none⟩ = some (.bool f.f2) := S.cell 0 2 rfl rfl
 have f_3 : w1.cell? ⟨p1, 3, none⟩ = some (.string f.f3) := S.cell 0 3 rfl rfl
 have f_4 : w1.cell? ⟨p1, 4, none⟩ = some (.int .i64 f.f4.f0) := S.cell 0 4 rfl rfl
 have f_5 : w1.cell? ⟨p1, 5, none⟩ = some (.int .i64 f.f4.f1) := S.cell 0 5 rfl rfl
 have f_6 : w1.cell? ⟨p1, 6, none⟩ = some (.int .i64 f.f4.f2) := S.cell 0 6 rfl rfl
 have f_7 : w1.cell? ⟨p1, 7, none⟩ = some (.string f.f4.f3) := S.cell 0 7 rfl rfl
 have f_8 : w1.cell? ⟨p1, 8, none⟩ = some (.int .u64 f.f5) := S.cell 0 8 rfl rfl
 have f_9 : w1.cell? ⟨p1, 9, none⟩ = some (.slice A f.f6.length c) := S.cell 0 9 rfl rfl
 go_wp2_with fail
 refine (HW.out _ (Ft.all (S.ft 0 rfl))).mono ?_
 rintro e w2 ⟨t, rfl, _, hb⟩
 replace S := S.below hb
 clear f_0 f_1 f_2 f_3 f_4 f_5 f_6 f_7 f_8 f_9 hb HW
 go_wp2
 go_ret2
 exact ⟨by first | rfl | trivial, S.bel⟩
theorem enc_kn {ok : Nat → Prop} {f : Fr} {A : Option Addr} {c : Nat} {w : World} (hl : f.f6.length ≤ 40) (hz : ∀ x ∈ f.f6, x.f0.size ≤ 9223372036854775807) (hn : f.f3.size ≤ 9223372036854775807) (h5 : 0 ≤ f.f5 ∧ f.f5 < 18446744073709551616) (g : (V kSe (.slice A f.f6.length c) f.f6).P w ok) :
  Calls Try.prog 11 #[.agg #[.int .i64 f.f0, .int .i64 f.f1, .bool f.f2, .string f.f3, .int .i64 f.f4.f0, .int .i64 f.f4.f1, .int .i64 f.f4.f2, .string f.f4.f3, .int .u64 f.f5, .slice A f.f6.length c]] w fun e w' => e = .returned (.tuple #[.string (encF f).1, .int .i64 (encF f).2]) ∧ Below w.heap.size w w' :=
 enc_go ok f A c w w (Kn.enter _ w (fun q hq => by simp only [List.mem_singleton] at hq; subst hq; exact g)) hl hz hn h5
set_option maxHeartbeats 8000000 in
theorem dec_go (ok : Nat → Prop) (s : ByteArray) (hs : s.size ≤ 100000) (w0 w : World) (S : Kn ok w0 [] nil tt [] w) :
  Calls Try.prog 17 #[.string s] w fun e w' => ∃ A c, e = .returned (.tuple #[.agg (cF (decF s).1 (.slice A (decF s).1.f6.length c)), .int .i64 (decF s).2]) ∧ (V kSe (.slice A (decF s).1.f6.length c) (decF s).1.f6).P w' (fun k => ok k ∨ w0.heap.size ≤ k) ∧ Below w0.heap.size w0 w' := by
 have HO := Aside0.mk (fun z => XCrc.open_calls s hs z)
 have hos := open_size s
 unfold decF
 rcases ho : openB s with ⟨t, e0⟩
 rw [ho] at HO hos
 dsimp only at HO hos ⊢
 have HR := Aside0.mk (fun z => read_calls t (by omega) z)
 clear ho hos hs
 by_cases c0 : e0 = 0
 rotate_left
 ·have c0b : (e0 != 0) = true := bne_iff_ne.mpr c0
  simp only [if_neg c0]
  clear HR c0
  go_enter Try.func17, Try.ntmps17
  go_upto_region 1 with (fail)
  generalize hg : World.alloc _ _ = w1
  replace S := S.new hg
  clear hg
  generalize w.heap.size = p2 at S ⊢
  replace S : Kn ok w0 [(p2, .cells #[.int .i64 0, .int .i64 0, .bool false, .string ⟨#[]⟩, .int .i64 0, .int .i64 0, .int .i64 0, .string ⟨#[]⟩, .int .u64 0, .slice none 0 0] TFr (0, 0))] nil tt [] w1 := S
  go_wp2_with fail
  refine (HO.out _).mono ?_
  rintro e w2 ⟨rfl, hb⟩
  replace S := S.below hb
  clear hb HO
  have r_0 : w2.cell? ⟨p2, 0, none⟩ = some (.int .i64 0) := S.cell 0 0 rfl rfl
  have zr_0 : w2.frozen? ⟨p2, 0, none⟩ = false := S.frozen 0 0 rfl
  have r_1 : w2.cell? ⟨p2, 1, none⟩ = some (.int .i64 0) := S.cell 0 1 rfl rfl
  have zr_1 : w2.frozen? ⟨p2, 1, none⟩ = false := S.frozen 0 1 rfl
  have r_2 : w2.cell? ⟨p2, 2, none⟩ = some (.bool false) := S.cell 0 2 rfl rfl
  have zr_2 : w2.frozen? ⟨p2, 2, none⟩ = false := S.frozen 0 2 rfl
  have r_3 : w2.cell? ⟨p2, 3, none⟩ = some (.string ⟨#[]⟩) := S.cell 0 3 rfl rfl
  have zr_3 : w2.frozen? ⟨p2, 3, none⟩ = false := S.frozen 0 3 rfl
  have r_4 : w2.cell? ⟨p2, 4, none⟩ = some (.int .i64 0) := S.cell 0 4 rfl rfl
  have zr_4 : w2.frozen? ⟨p2, 4, none⟩ = false := S.frozen 0 4 rfl
  have r_5 : w2.cell? ⟨p2, 5, none⟩ = some (.int .i64 0) := S.cell 0 5 rfl rfl
  have zr_5 : w2.frozen? ⟨p2, 5, none⟩ = false := S.frozen 0 5 rfl
  have r_6 : w2.cell? ⟨p2, 6, none⟩ = some (.int .i64 0) := S.cell 0 6 rfl rfl
  have zr_6 : w2.frozen? ⟨p2, 6, none⟩ = false := S.frozen 0 6 rfl
  have r_7 : w2.cell? ⟨p2, 7, none⟩ = some (.string ⟨#[]⟩) := S.cell 0 7 rfl rfl
  have zr_7 : w2.frozen? ⟨p2, 7, none⟩ = false := S.frozen 0 7 rfl
  have r_8 : w2.cell? ⟨p2, 8, none⟩ = some (.int .u64 0) := S.cell 0 8 rfl rfl
  have zr_8 : w2.frozen? ⟨p2, 8, none⟩ = false := S.frozen 0 8 rfl
  have r_9 : w2.cell? ⟨p2, 9, none⟩ = some (.slice none 0 0) := S.cell 0 9 rfl rfl
  have zr_9 : w2.frozen? ⟨p2, 9, none⟩ = false := S.frozen 0 9 rfl
  go_wp2
  clear r_0 zr_0 r_1 zr_1 r_2 zr_2 r_3 zr_3 r_4 zr_4 r_5 zr_5 r_6 zr_6 r_7 zr_7 r_8 zr_8 r_9 zr_9
  generalize hg : World.setCell w2 ⟨p2, 0, none⟩ _ = w3
  replace S := S.set 0 hg rfl
  clear hg
  generalize hg : World.setCell w3 ⟨p2, 1, none⟩ _ = w4
  replace S := S.set 0 hg rfl
  clear hg
  generalize hg : World.setCell w4 ⟨p2, 2, none⟩ _ = w5
  replace S := S.set 0 hg rfl
  clear hg
  replace S : Kn ok w0 [(p2, .cells #[.int .i64 0, .int .i64 0, .bool false, .string ⟨#[]⟩, .int .i64 0, .int .i64 0, .int .i64 0, .string ⟨#[]⟩, .int .u64 0, .slice none 0 0] TFr (0, 0))] nil tt [] w5 := S
  generalize hg : World.setCell w5 ⟨p2, 3, none⟩ _ = w6
  replace S := S.set 0 hg rfl
  clear hg
  generalize hg : World.setCell w6 ⟨p2, 4, none⟩ _ = w7
  replace S := S.set 0 hg rfl
  clear hg
  generalize hg : World.setCell w7 ⟨p2, 5, none⟩ _ = w8
  replace S := S.set 0 hg rfl
  clear hg
  replace S : Kn ok w0 [(p2, .cells #[.int .i64 0, .int .i64 0, .bool false, .string ⟨#[]⟩, .int .i64 0, .int .i64 0, .int .i64 0, .string ⟨#[]⟩, .int .u64 0, .slice none 0 0] TFr (0, 0))] nil tt [] w8 := S
  generalize hg : World.setCell w8 ⟨p2, 6, none⟩ _ = w9
  replace S := S.set 0 hg rfl
  clear hg
  generalize hg : World.setCell w9 ⟨p2, 7, none⟩ _ = w10
  replace S := S.set 0 hg rfl
  clear hg
  generalize hg : World.setCell w10 ⟨p2, 8, none⟩ _ = w11
  replace S := S.set 0 hg rfl
  clear hg
  replace S : Kn ok w0 [(p2, .cells #[.int .i64 0, .int .i64 0, .bool false, .string ⟨#[]⟩, .int .i64 0, .int .i64 0, .int .i64 0, .string ⟨#[]⟩, .int .u64 0, .slice none 0 0] TFr (0, 0))] nil tt [] w11 := S
  generalize hg : World.setCell w11 ⟨p2, 9, none⟩ _ = w12
  replace S := S.set 0 hg rfl
  clear hg
  replace S : Kn ok w0 [(p2, .cells #[.int .i64 0, .int .i64 0, .bool false, .string ⟨#[]⟩, .int .i64 0, .int .i64 0, .int .i64 0, .string ⟨#[]⟩, .int .u64 0, .slice none 0 0] TFr (0, 0))] nil tt [] w12 := S
  have b6 := S.get 0 rfl
  have hV := (V_any (Kd.V_nil kSe 0 _ 0 _) : (V kSe (.slice none 0 0) []).P w12 (fun k => ok k ∨ w0.heap.size ≤ k))
  have hBe := S.bel
  clear S
  refine bodyPost_ret (results_ct rfl _ _ p2 TFr #[.int .i64 0, .int .i64 0, .bool false, .string ⟨#[]⟩, .int .i64 0, .int .i64 0, .int .i64 0, .string ⟨#[]⟩, .int .u64 0, .slice none 0 0] (0, 0) _ rfl b6 Try.underlying27 rfl (by kernel_rfl)) rfl ?_
  exact ⟨none, 0, by first | rfl | trivial, hV, hBe⟩
 subst c0
 simp only [if_true]
 generalize readF t = rr at HR ⊢
 obtain ⟨g, gb⟩ := rr
 dsimp only at HR ⊢
 cases gb with
 | false =>
  simp only [Bool.false_eq_true, if_false]
  go_enter Try.func17, Try.ntmps17
  go_upto_region 1 with (fail)
  generalize hg : World.alloc _ _ = w1
  replace S := S.new hg
  clear hg
  generalize w.heap.size = p2 at S ⊢
  replace S : Kn ok w0 [(p2, .cells #[.int .i64 0, .int .i64 0, .bool false, .string ⟨#[]⟩, .int .i64 0, .int .i64 0, .int .i64 0, .string ⟨#[]⟩, .int .u64 0, .slice none 0 0] TFr (0, 0))] nil tt [] w1 := S
  go_wp2_with fail
  refine (HO.out _).mono ?_
  rintro e w2 ⟨rfl, hb⟩
  replace S := S.below hb
  clear hb HO
  go_wp2_with fail
  refine (HR.out _).mono ?_
  rintro e w3 ⟨A2, c2, rfl, hV, hb⟩
  replace S := S.call (f := (V kSe (.slice A2 g.f6.length c2) g.f6)) hb (Ft.mono _ hV (fun k hk => Or.inr hk))
  clear hb hV HR
  go_upto_region 5 with (fail)
  generalize hg : World.alloc _ _ = w4
  replace S := S.new hg
  clear hg
  generalize w3.heap.size = p6 at S ⊢
  replace S : Kn ok w0 [(p6, .cells #[.int .i64 g.f0, .int .i64 g.f1, .bool g.f2, .string g.f3, .int .i64 g.f4.f0, .int .i64 g.f4.f1, .int .i64 g.f4.f2, .string g.f4.f3, .int .u64 g.f5, .slice A2 g.f6.length c2] TFr (0, 0)), (p2, .cells #[.int .i64 0, .int .i64 0, .bool false, .string ⟨#[]⟩, .int .i64 0, .int .i64 0, .int .i64 0, .string ⟨#[]⟩, .int .u64 0, .slice none 0 0] TFr (0, 0))] nil tt [V kSe (.slice A2 g.f6.length c2) g.f6] w4 := S
  have r_0 : w4.cell? ⟨p2, 0, none⟩ = some (.int .i64 0) := S.cell 1 0 rfl rfl
  have zr_0 : w4.frozen? ⟨p2, 0, none⟩ = false := S.frozen 1 0 rfl
  have r_1 : w4.cell? ⟨p2, 1, none⟩ = some (.int .i64 0) := S.cell 1 1 rfl rfl
  have zr_1 : w4.frozen? ⟨p2, 1, none⟩ = false := S.frozen 1 1 rfl
  have r_2 : w4.cell? ⟨p2, 2, none⟩ = some (.bool false) := S.cell 1 2 rfl rfl
  have zr_2 : w4.frozen? ⟨p2, 2, none⟩ = false := S.frozen 1 2 rfl
  have r_3 : w4.cell? ⟨p2, 3, none⟩ = some (.string ⟨#[]⟩) := S.cell 1 3 rfl rfl
  have zr_3 : w4.frozen? ⟨p2, 3, none⟩ = false := S.frozen 1 3 rfl
  have r_4 : w4.cell? ⟨p2, 4, none⟩ = some (.int .i64 0) := S.cell 1 4 rfl rfl
  have zr_4 : w4.frozen? ⟨p2, 4, none⟩ = false := S.frozen 1 4 rfl
  have r_5 : w4.cell? ⟨p2, 5, none⟩ = some (.int .i64 0) := S.cell 1 5 rfl rfl
  have zr_5 : w4.frozen? ⟨p2, 5, none⟩ = false := S.frozen 1 5 rfl
  have r_6 : w4.cell? ⟨p2, 6, none⟩ = some (.int .i64 0) := S.cell 1 6 rfl rfl
  have zr_6 : w4.frozen? ⟨p2, 6, none⟩ = false := S.frozen 1 6 rfl
  have r_7 : w4.cell? ⟨p2, 7, none⟩ = some (.string ⟨#[]⟩) := S.cell 1 7 rfl rfl
  have zr_7 : w4.frozen? ⟨p2, 7, none⟩ = false := S.frozen 1 7 rfl
  have r_8 : w4.cell? ⟨p2, 8, none⟩ = some (.int .u64 0) := S.cell 1 8 rfl rfl
  have zr_8 : w4.frozen? ⟨p2, 8, none⟩ = false := S.frozen 1 8 rfl
  have r_9 : w4.cell? ⟨p2, 9, none⟩ = some (.slice none 0 0) := S.cell 1 9 rfl rfl
  have zr_9 : w4.frozen? ⟨p2, 9, none⟩ = false := S.frozen 1 9 rfl
  go_wp2
  clear r_0 zr_0 r_1 zr_1 r_2 zr_2 r_3 zr_3 r_4 zr_4 r_5 zr_5 r_6 zr_6 r_7 zr_7 r_8 zr_8 r_9 zr_9
  generalize hg : World.setCell w4 ⟨p2, 0, none⟩ _ = w5
  replace S := S.set 1 hg rfl
  clear hg
  generalize hg : World.setCell w5 ⟨p2, 1, none⟩ _ = w6
  replace S := S.set 1 hg rfl
  clear hg
  generalize hg : World.setCell w6 ⟨p2, 2, none⟩ _ = w7
  replace S := S.set 1 hg rfl
  clear hg
  replace S : Kn ok w0 [(p6, .cells #[.int .i64 g.f0, .int .i64 g.f1, .bool g.f2, .string g.f3, .int .i64 g.f4.f0, .int .i64 g.f4.f1, .int .i64 g.f4.f2, .string g.f4.f3, .int .u64 g.f5, .slice A2 g.f6.length c2] TFr (0, 0)), (p2, .cells #[.int .i64 0, .int .i64 0, .bool false, .string ⟨#[]⟩, .int .i64 0, .int .i64 0, .int .i64 0, .string ⟨#[]⟩, .int .u64 0, .slice none 0 0] TFr (0, 0))] nil tt [V kSe (.slice A2 g.f6.length c2) g.f6] w7 := S
  generalize hg : World.setCell w7 ⟨p2, 3, none⟩ _ = w8
  replace S := S.set 1 hg rfl
  clear hg
  generalize hg : World.setCell w8 ⟨p2, 4, none⟩ _ = w9
  replace S := S.set 1 hg rfl
  clear hg
  generalize hg : World.setCell w9 ⟨p2, 5, none⟩ _ = w10
  replace S := S.set 1 hg rfl
  clear hg
  replace S : Kn ok w0 [(p6, .cells #[.int .i64 g.f0, .int .i64 g.f1, .bool g.f2, .string g.f3, .int .i64 g.f4.f0, .int .i64 g.f4.f1, .int .i64 g.f4.f2, .string g.f4.f3, .int .u64 g.f5, .slice A2 g.f6.length c2] TFr (0, 0)), (p2, .cells #[.int .i64 0, .int .i64 0, .bool false, .string ⟨#[]⟩, .int .i64 0, .int .i64 0, .int .i64 0, .string ⟨#[]⟩, .int .u64 0, .slice none 0 0] TFr (0, 0))] nil tt [V kSe (.slice A2 g.f6.length c2) g.f6] w10 := S
  generalize hg : World.setCell w10 ⟨p2, 6, none⟩ _ = w11
  replace S := S.set 1 hg rfl
  clear hg
  generalize hg : World.setCell w11 ⟨p2, 7, none⟩ _ = w12
  replace S := S.set 1 hg rfl
  clear hg
  generalize hg : World.setCell w12 ⟨p2, 8, none⟩ _ = w13
  replace S := S.set 1 hg rfl
  clear hg
  replace S : Kn ok w0 [(p6, .cells #[.int .i64 g.f0, .int .i64 g.f1, .bool g.f2, .string g.f3, .int .i64 g.f4.f0, .int .i64 g.f4.f1, .int .i64 g.f4.f2, .string g.f4.f3, .int .u64 g.f5, .slice A2 g.f6.length c2] TFr (0, 0)), (p2, .cells #[.int .i64 0, .int .i64 0, .bool false, .string ⟨#[]⟩, .int .i64 0, .int .i64 0, .int .i64 0, .string ⟨#[]⟩, .int .u64 0, .slice none 0 0] TFr (0, 0))] nil tt [V kSe (.slice A2 g.f6.length c2) g.f6] w13 := S
  generalize hg : World.setCell w13 ⟨p2, 9, none⟩ _ = w14
  replace S := S.set 1 hg rfl
  clear hg
  replace S : Kn ok w0 [(p6, .cells #[.int .i64 g.f0, .int .i64 g.f1, .bool g.f2, .string g.f3, .int .i64 g.f4.f0, .int .i64 g.f4.f1, .int .i64 g.f4.f2, .string g.f4.f3, .int .u64 g.f5, .slice A2 g.f6.length c2] TFr (0, 0)), (p2, .cells #[.int .i64 0, .int .i64 0, .bool false, .string ⟨#[]⟩, .int .i64 0, .int .i64 0, .int .i64 0, .string ⟨#[]⟩, .int .u64 0, .slice none 0 0] TFr (0, 0))] nil tt [V kSe (.slice A2 g.f6.length c2) g.f6] w14 := S
  have b6 := S.get 1 rfl
  have hV := (V_any (Kd.V_nil kSe 0 _ 0 _) : (V kSe (.slice none 0 0) []).P w14 (fun k => ok k ∨ w0.heap.size ≤ k))
  have hBe := S.bel
  clear S
  refine bodyPost_ret (results_ct rfl _ _ p2 TFr #[.int .i64 0, .int .i64 0, .bool false, .string ⟨#[]⟩, .int .i64 0, .int .i64 0, .int .i64 0, .string ⟨#[]⟩, .int .u64 0, .slice none 0 0] (0, 0) _ rfl b6 Try.underlying27 rfl (by kernel_rfl)) rfl ?_
  exact ⟨none, 0, by first | rfl | trivial, hV, hBe⟩
 | true =>
  simp only [if_true]
  go_enter Try.func17, Try.ntmps17
  go_upto_region 1 with (fail)
  generalize hg : World.alloc _ _ = w1
  replace S := S.new hg
  clear hg
  generalize w.heap.size = p2 at S ⊢
  replace S : Kn ok w0 [(p2, .cells #[.int .i64 0, .int .i64 0, .bool false, .string ⟨#[]⟩, .int .i64 0, .int .i64 0, .int .i64 0, .string ⟨#[]⟩, .int .u64 0, .slice none 0 0] TFr (0, 0))] nil tt [] w1 := S
  go_wp2_with fail
  refine (HO.out _).mono ?_
  rintro e w2 ⟨rfl, hb⟩
  replace S := S.below hb
  clear hb HO
  go_wp2_with fail
  refine (HR.out _).mono ?_
  rintro e w3 ⟨A2, c2, rfl, hV, hb⟩
  replace S := S.call (f := (V kSe (.slice A2 g.f6.length c2) g.f6)) hb (Ft.mono _ hV (fun k hk => Or.inr hk))
  clear hb hV HR
  go_upto_region 5 with (fail)
  generalize hg : World.alloc _ _ = w4
  replace S := S.new hg
  clear hg
  generalize w3.heap.size = p6 at S ⊢
  replace S : Kn ok w0 [(p6, .cells #[.int .i64 g.f0, .int .i64 g.f1, .bool g.f2, .string g.f3, .int .i64 g.f4.f0, .int .i64 g.f4.f1, .int .i64 g.f4.f2, .string g.f4.f3, .int .u64 g.f5, .slice A2 g.f6.length c2] TFr (0, 0)), (p2, .cells #[.int .i64 0, .int .i64 0, .bool false, .string ⟨#[]⟩, .int .i64 0, .int .i64 0, .int .i64 0, .string ⟨#[]⟩, .int .u64 0, .slice none 0 0] TFr (0, 0))] nil tt [V kSe (.slice A2 g.f6.length c2) g.f6] w4 := S
  have g_0 : w4.cell? ⟨p6, 0, none⟩ = some (.int .i64 g.f0) := S.cell 0 0 rfl rfl
  have g_1 : w4.cell? ⟨p6, 1, none⟩ = some (.int .i64 g.f1) := S.cell 0 1 rfl rfl
  have g_2 : w4.cell? ⟨p6, 2, none⟩ = some (.bool g.f2) := S.cell 0 2 rfl rfl
  have g_3 : w4.cell? ⟨p6, 3, none⟩ = some (.string g.f3) := S.cell 0 3 rfl rfl
  have g_4 : w4.cell? ⟨p6, 4, none⟩ = some (.int .i64 g.f4.f0) := S.cell 0 4 rfl rfl
  have g_5 : w4.cell? ⟨p6, 5, none⟩ = some (.int .i64 g.f4.f1) := S.cell 0 5 rfl rfl
  have g_6 : w4.cell? ⟨p6, 6, none⟩ = some (.int .i64 g.f4.f2) := S.cell 0 6 rfl rfl
  have g_7 : w4.cell? ⟨p6, 7, none⟩ = some (.string g.f4.f3) := S.cell 0 7 rfl rfl
  have g_8 : w4.cell? ⟨p6, 8, none⟩ = some (.int .u64 g.f5) := S.cell 0 8 rfl rfl
  have g_9 : w4.cell? ⟨p6, 9, none⟩ = some (.slice A2 g.f6.length c2) := S.cell 0 9 rfl rfl
  have r_0 : w4.cell? ⟨p2, 0, none⟩ = some (.int .i64 0) := S.cell 1 0 rfl rfl
  have zr_0 : w4.frozen? ⟨p2, 0, none⟩ = false := S.frozen 1 0 rfl
  have r_1 : w4.cell? ⟨p2, 1, none⟩ = some (.int .i64 0) := S.cell 1 1 rfl rfl
  have zr_1 : w4.frozen? ⟨p2, 1, none⟩ = false := S.frozen 1 1 rfl
  have r_2 : w4.cell? ⟨p2, 2, none⟩ = some (.bool false) := S.cell 1 2 rfl rfl
  have zr_2 : w4.frozen? ⟨p2, 2, none⟩ = false := S.frozen 1 2 rfl
  have r_3 : w4.cell? ⟨p2, 3, none⟩ = some (.string ⟨#[]⟩) := S.cell 1 3 rfl rfl
  have zr_3 : w4.frozen? ⟨p2, 3, none⟩ = false := S.frozen 1 3 rfl
  have r_4 : w4.cell? ⟨p2, 4, none⟩ = some (.int .i64 0) := S.cell 1 4 rfl rfl
  have zr_4 : w4.frozen? ⟨p2, 4, none⟩ = false := S.frozen 1 4 rfl
  have r_5 : w4.cell? ⟨p2, 5, none⟩ = some (.int .i64 0) := S.cell 1 5 rfl rfl
  have zr_5 : w4.frozen? ⟨p2, 5, none⟩ = false := S.frozen 1 5 rfl
  have r_6 : w4.cell? ⟨p2, 6, none⟩ = some (.int .i64 0) := S.cell 1 6 rfl rfl
  have zr_6 : w4.frozen? ⟨p2, 6, none⟩ = false := S.frozen 1 6 rfl
  have r_7 : w4.cell? ⟨p2, 7, none⟩ = some (.string ⟨#[]⟩) := S.cell 1 7 rfl rfl
  have zr_7 : w4.frozen? ⟨p2, 7, none⟩ = false := S.frozen 1 7 rfl
  have r_8 : w4.cell? ⟨p2, 8, none⟩ = some (.int .u64 0) := S.cell 1 8 rfl rfl
  have zr_8 : w4.frozen? ⟨p2, 8, none⟩ = false := S.frozen 1 8 rfl
  have r_9 : w4.cell? ⟨p2, 9, none⟩ = some (.slice none 0 0) := S.cell 1 9 rfl rfl
  have zr_9 : w4.frozen? ⟨p2, 9, none⟩ = false := S.frozen 1 9 rfl
  go_wp2
  clear g_0 g_1 g_2 g_3 g_4 g_5 g_6 g_7 g_8 g_9 r_0 zr_0 r_1 zr_1 r_2 zr_2 r_3 zr_3 r_4 zr_4 r_5 zr_5 r_6 zr_6 r_7 zr_7 r_8 zr_8 r_9 zr_9
  generalize hg : World.setCell w4 ⟨p2, 0, none⟩ _ = w5
  replace S := S.set 1 hg rfl
  clear hg
  generalize hg : World.setCell w5 ⟨p2, 1, none⟩ _ = w6
  replace S := S.set 1 hg rfl
  clear hg
  generalize hg : World.setCell w6 ⟨p2, 2, none⟩ _ = w7
  replace S := S.set 1 hg rfl
  clear hg
  replace S : Kn ok w0 [(p6, .cells #[.int .i64 g.f0, .int .i64 g.f1, .bool g.f2, .string g.f3, .int .i64 g.f4.f0, .int .i64 g.f4.f1, .int .i64 g.f4.f2, .string g.f4.f3, .int .u64 g.f5, .slice A2 g.f6.length c2] TFr (0, 0)), (p2, .cells #[.int .i64 g.f0, .int .i64 g.f1, .bool g.f2, .string ⟨#[]⟩, .int .i64 0, .int .i64 0, .int .i64 0, .string ⟨#[]⟩, .int .u64 0, .slice none 0 0] TFr (0, 0))] nil tt [V kSe (.slice A2 g.f6.length c2) g.f6] w7 := S
  generalize hg : World.setCell w7 ⟨p2, 3, none⟩ _ = w8
  replace S := S.set 1 hg rfl
  clear hg
  generalize hg : World.setCell w8 ⟨p2, 4, none⟩ _ = w9
  replace S := S.set 1 hg rfl
  clear hg
  generalize hg : World.setCell w9 ⟨p2, 5, none⟩ _ = w10
  replace S := S.set 1 hg rfl
  clear hg
  replace S : Kn ok w0 [(p6, .cells #[.int .i64 g.f0, .int .i64 g.f1, .bool g.f2, .string g.f3, .int .i64 g.f4.f0, .int .i64 g.f4.f1, .int .i64 g.f4.f2, .string g.f4.f3, .int .u64 g.f5, .slice A2 g.f6.length c2] TFr (0, 0)), (p2, .cells #[.int .i64 g.f0, .int .i64 g.f1, .bool g.f2, .string g.f3, .int .i64 g.f4.f0, .int .i64 g.f4.f1, .int .i64 0, .string ⟨#[]⟩, .int .u64 0, .slice none 0 0] TFr (0, 0))] nil tt [V kSe (.slice A2 g.f6.length c2) g.f6] w10 := S
  generalize hg : World.setCell w10 ⟨p2, 6, none⟩ _ = w11
  replace S := S.set 1 hg rfl
  clear hg
  generalize hg : World.setCell w11 ⟨p2, 7, none⟩ _ = w12
  replace S := S.set 1 hg rfl
  clear hg
  generalize hg : World.setCell w12 ⟨p2, 8, none⟩ _ = w13
  replace S := S.set 1 hg rfl
  clear hg
  replace S : Kn ok w0 [(p6, .cells #[.int .i64 g.f0, .int .i64 g.f1, .bool g.f2, .string g.f3, .int .i64 g.f4.f0, .int .i64 g.f4.f1, .int .i64 g.f4.f2, .string g.f4.f3, .int .u64 g.f5, .slice A2 g.f6.length c2] TFr (0, 0)), (p2, .cells #[.int .i64 g.f0, .int .i64 g.f1, .bool g.f2, .string g.f3, .int .i64 g.f4.f0, .int .i64 g.f4.f1, .int .i64 g.f4.f2, .string g.f4.f3, .int .u64 g.f5, .slice none 0 0] TFr (0, 0))] nil tt [V kSe (.slice A2 g.f6.length c2) g.f6] w13 := S
  generalize hg : World.setCell w13 ⟨p2, 9, none⟩ _ = w14
  replace S := S.set 1 hg rfl
  clear hg
  replace S : Kn ok w0 [(p6, .cells #[.int .i64 g.f0, .int .i64 g.f1, .bool g.f2, .string g.f3, .int .i64 g.f4.f0, .int .i64 g.f4.f1, .int .i64 g.f4.f2, .string g.f4.f3, .int .u64 g.f5, .slice A2 g.f6.length c2] TFr (0, 0)), (p2, .cells #[.int .i64 g.f0, .int .i64 g.f1, .bool g.f2, .string g.f3, .int .i64 g.f4.f0, .int .i64 g.f4.f1, .int .i64 g.f4.f2, .string g.f4.f3, .int .u64 g.f5, .slice A2 g.f6.length c2] TFr (0, 0))] nil tt [V kSe (.slice A2 g.f6.length c2) g.f6] w14 := S
  have b6 := S.get 1 rfl
  have hV := S.out 0 rfl
  have hBe := S.bel
  clear S
  refine bodyPost_ret (results_ct rfl _ _ p2 TFr #[.int .i64 g.f0, .int .i64 g.f1, .bool g.f2, .string g.f3, .int .i64 g.f4.f0, .int .i64 g.f4.f1, .int .i64 g.f4.f2, .string g.f4.f3, .int .u64 g.f5, .slice A2 g.f6.length c2] (0, 0) _ rfl b6 Try.underlying27 rfl (by kernel_rfl)) rfl ?_
  exact ⟨A2, c2, by first | rfl | trivial, hV, hBe⟩
theorem dec_calls (s : ByteArray) (hs : s.size ≤ 100000) (w : World) : Calls Try.prog 17 #[.string s] w fun e w' => ∃ A c, e = .returned (.tuple #[.agg (cF (decF s).1 (.slice A (decF s).1.f6.length c)), .int .i64 (decF s).2]) ∧ (V kSe (.slice A (decF s).1.f6.length c) (decF s).1.f6).P w' (fun k => w.heap.size ≤ k) ∧ Below w.heap.size w w' := by
 refine (dec_go (fun _ => False) s hs w w (Kn.start _ w)).mono ?_
 rintro e w' ⟨A, c, rfl, hV, hb⟩
 exact ⟨A, c, rfl, Ft.mono _ hV (fun k hk => hk.resolve_left id), hb⟩
end Go.Proofs.Ytjccgdnnnlgeeaa.XFr
end

section
/- law06's live, walked. -/
namespace Go.Proofs.Ytjccgdnnnlgeeaa.XKn
open Go.RowKit Go.Proofs.YtjccgdnnnlgeeaaW.PrintWords Go.Proofs.YtjccgdnnnlgeeaaW.PrintLast Go.Proofs.YtjccgdnnnlgeeaaW.PrintMore Go.Proofs.Ytjccgdnnnlgeeaa.PA Go.Proofs.Ytjccgdnnnlgeeaa.XMem Go.Proofs.Ytjccgdnnnlgeeaa.XSt
set_option linter.unusedVariables false
set_option linter.unusedSimpArgs false
theorem rollcallref02_Seal.kn {w : World} (k : Nat) {a0 : ByteArray} {r : ByteArray} (h : rollcallref02_Seal.f k a0 = some r)  :
  Calls Try.prog 19 #[.string a0] w fun e w' => e = .returned (.string r) ∧ Below w.heap.size w w' := by
 refine (rollcallref02_Seal.calls k a0 r w h).mono ?_
 rintro e w' ⟨y0, y1⟩
 exact ⟨y0, y1⟩
theorem rollcallref02_Open.kn {w : World} (k : Nat) {a0 : ByteArray} {r1 : ByteArray} {r2 : Int} (h : rollcallref02_Open.f k a0 = some (r1, r2))  :
  Calls Try.prog 22 #[.string a0] w fun e w' => e = .returned (.tuple #[.string r1, .int .i64 r2]) ∧ Below w.heap.size w w' := by
 refine (rollcallref02_Open.calls k a0 r1 r2 w h).mono ?_
 rintro e w' ⟨y0, y1⟩
 exact ⟨y0, y1⟩
theorem rollcallref05_Few.kn {w : World} (k : Nat) {A0 : Option Addr} {c0 : Nat} {l0 : List (S52)} {r : Bool} (h : rollcallref05_Few.f k l0 = some r) {Q1_ : Nat → Prop} (g1 : (V k52 (.slice A0 l0.length c0) l0).P w Q1_) :
  Calls Try.prog 20 #[.slice A0 l0.length c0] w fun e w' => e = .returned (.bool r) ∧ Below w.heap.size w w' := by
 refine (rollcallref05_Few.calls k A0 c0 l0 r w (Kd.V_reads' (e := 0) (base := 0) g1).2.2 (Kd.V_reads' (e := 0) (base := 0) g1).2.1 h).mono ?_
 rintro e w' ⟨y0, y1⟩
 exact ⟨y0, y1.below⟩
theorem rollcallref06_Few.kn {w : World} (k : Nat) {a0_0 : Int} {a0_1 : Int} {a0_2 : Bool} {a0_3 : ByteArray} {a0_4 : Int} {a0_5 : Int} {a0_6 : Int} {a0_7 : ByteArray} {a0_8 : Int} {A0_9 : Option Addr} {c0_9 : Nat} {l0_9 : List (S52)} {r : Bool} (h : rollcallref06_Few.f k a0_0 a0_1 a0_2 a0_3 a0_4 a0_5 a0_6 a0_7 a0_8 l0_9 = some r) {Q1_ : Nat → Prop} (g1 : (V k52 (.slice A0_9 l0_9.length c0_9) l0_9).P w Q1_) :
  Calls Try.prog 9 #[.agg #[.int .i64 a0_0, .int .i64 a0_1, .bool a0_2, .string a0_3, .int .i64 a0_4, .int .i64 a0_5, .int .i64 a0_6, .string a0_7, .int .u64 a0_8, .slice A0_9 l0_9.length c0_9]] w fun e w' => e = .returned (.bool r) ∧ Below w.heap.size w w' := by
 refine (rollcallref06_Few.calls k a0_0 a0_1 a0_2 a0_3 a0_4 a0_5 a0_6 a0_7 a0_8 A0_9 c0_9 l0_9 r w (Kd.V_reads' (e := 0) (base := 0) g1).2.2 (Kd.V_reads' (e := 0) (base := 0) g1).2.1 h).mono ?_
 rintro e w' ⟨y0, y1⟩
 exact ⟨y0, y1⟩
theorem rollcallref06_Same.kn {w : World} (k : Nat) {a0_0 : Int} {a0_1 : Int} {a0_2 : Bool} {a0_3 : ByteArray} {a0_4 : Int} {a0_5 : Int} {a0_6 : Int} {a0_7 : ByteArray} {a0_8 : Int} {A0_9 : Option Addr} {c0_9 : Nat} {l0_9 : List (S52)} {a1_0 : Int} {a1_1 : Int} {a1_2 : Bool} {a1_3 : ByteArray} {a1_4 : Int} {a1_5 : Int} {a1_6 : Int} {a1_7 : ByteArray} {a1_8 : Int} {A1_9 : Option Addr} {c1_9 : Nat} {l1_9 : List (S52)} {r : Bool} (h : rollcallref06_Same.f k a0_0 a0_1 a0_2 a0_3 a0_4 a0_5 a0_6 a0_7 a0_8 l0_9 a1_0 a1_1 a1_2 a1_3 a1_4 a1_5 a1_6 a1_7 a1_8 l1_9 = some r) {Q1_ : Nat → Prop} {Q2_ : Nat → Prop} (g1 : (V k52 (.slice A0_9 l0_9.length c0_9) l0_9).P w Q1_) (g2 : (V k52 (.slice A1_9 l1_9.length c1_9) l1_9).P w Q2_) :
  Calls Try.prog 16 #[.agg #[.int .i64 a0_0, .int .i64 a0_1, .bool a0_2, .string a0_3, .int .i64 a0_4, .int .i64 a0_5, .int .i64 a0_6, .string a0_7, .int .u64 a0_8, .slice A0_9 l0_9.length c0_9], .agg #[.int .i64 a1_0, .int .i64 a1_1, .bool a1_2, .string a1_3, .int .i64 a1_4, .int .i64 a1_5, .int .i64 a1_6, .string a1_7, .int .u64 a1_8, .slice A1_9 l1_9.length c1_9]] w fun e w' => e = .returned (.bool r) ∧ Below w.heap.size w w' := by
 refine (rollcallref06_Same.calls k a0_0 a0_1 a0_2 a0_3 a0_4 a0_5 a0_6 a0_7 a0_8 A0_9 c0_9 l0_9 a1_0 a1_1 a1_2 a1_3 a1_4 a1_5 a1_6 a1_7 a1_8 A1_9 c1_9 l1_9 r w (Kd.V_reads' (e := 0) (base := 0) g1).2.2 (Kd.V_reads' (e := 0) (base := 0) g1).2.1 (Kd.V_reads' (e := 0) (base := 0) g2).2.2 (Kd.V_reads' (e := 0) (base := 0) g2).2.1 h).mono ?_
 rintro e w' ⟨y0, y1⟩
 exact ⟨y0, y1⟩
theorem rollcallref06_May.kn {w : World} (k : Nat) {a0_0 : Int} {a0_1 : Int} {a0_2 : Bool} {a0_3 : ByteArray} {a0_4 : Int} {a0_5 : Int} {a0_6 : Int} {a0_7 : ByteArray} {a0_8 : Int} {A0_9 : Option Addr} {c0_9 : Nat} {l0_9 : List (S52)} {r : Bool} (h : rollcallref06_May.f k a0_0 a0_1 a0_2 a0_3 a0_4 a0_5 a0_6 a0_7 a0_8 l0_9 = some r) {Q1_ : Nat → Prop} (g1 : (V k52 (.slice A0_9 l0_9.length c0_9) l0_9).P w Q1_) :
  Calls Try.prog 14 #[.agg #[.int .i64 a0_0, .int .i64 a0_1, .bool a0_2, .string a0_3, .int .i64 a0_4, .int .i64 a0_5, .int .i64 a0_6, .string a0_7, .int .u64 a0_8, .slice A0_9 l0_9.length c0_9]] w fun e w' => e = .returned (.bool r) ∧ Below w.heap.size w w' := by
 refine (rollcallref06_May.calls k a0_0 a0_1 a0_2 a0_3 a0_4 a0_5 a0_6 a0_7 a0_8 A0_9 c0_9 l0_9 r w (Kd.V_reads' (e := 0) (base := 0) g1).2.2 (Kd.V_reads' (e := 0) (base := 0) g1).2.1 h).mono ?_
 rintro e w' ⟨y0, y1⟩
 exact ⟨y0, y1⟩
theorem rollcallref06_Encode.kn {w : World} (k : Nat) {a0_0 : Int} {a0_1 : Int} {a0_2 : Bool} {a0_3 : ByteArray} {a0_4 : Int} {a0_5 : Int} {a0_6 : Int} {a0_7 : ByteArray} {a0_8 : Int} {A0_9 : Option Addr} {c0_9 : Nat} {l0_9 : List (S52)} {r1 : ByteArray} {r2 : Int} (h : rollcallref06_Encode.f k a0_0 a0_1 a0_2 a0_3 a0_4 a0_5 a0_6 a0_7 a0_8 l0_9 = some (r1, r2)) {Q1_ : Nat → Prop} (g1 : (V k52 (.slice A0_9 l0_9.length c0_9) l0_9).P w Q1_) :
  Calls Try.prog 12 #[.agg #[.int .i64 a0_0, .int .i64 a0_1, .bool a0_2, .string a0_3, .int .i64 a0_4, .int .i64 a0_5, .int .i64 a0_6, .string a0_7, .int .u64 a0_8, .slice A0_9 l0_9.length c0_9]] w fun e w' => e = .returned (.tuple #[.string r1, .int .i64 r2]) ∧ Below w.heap.size w w' := by
 refine (rollcallref06_Encode.calls k a0_0 a0_1 a0_2 a0_3 a0_4 a0_5 a0_6 a0_7 a0_8 A0_9 c0_9 l0_9 r1 r2 w (Kd.V_reads' (e := 0) (base := 0) g1).2.2 (Kd.V_reads' (e := 0) (base := 0) g1).2.1 h).mono ?_
 rintro e w' ⟨y0, y1⟩
 exact ⟨y0, y1⟩
theorem rollcallref05_Same.kn {w : World} (k : Nat) {A0 : Option Addr} {c0 : Nat} {l0 : List (S52)} {A1 : Option Addr} {c1 : Nat} {l1 : List (S52)} {r : Bool} (h : rollcallref05_Same.f k l0 l1 = some r) {Q1_ : Nat → Prop} {Q2_ : Nat → Prop} (g1 : (V k52 (.slice A0 l0.length c0) l0).P w Q1_) (g2 : (V k52 (.slice A1 l1.length c1) l1).P w Q2_) :
  Calls Try.prog 23 #[.slice A0 l0.length c0, .slice A1 l1.length c1] w fun e w' => e = .returned (.bool r) ∧ Below w.heap.size w w' := by
 refine (rollcallref05_Same.calls k A0 c0 l0 A1 c1 l1 r w (Kd.V_reads' (e := 0) (base := 0) g1).2.2 (Kd.V_reads' (e := 0) (base := 0) g1).2.1 (Kd.V_reads' (e := 0) (base := 0) g2).2.2 (Kd.V_reads' (e := 0) (base := 0) g2).2.1 h).mono ?_
 rintro e w' ⟨y0, y1⟩
 exact ⟨y0, y1.below⟩
theorem rollcallref05_Put.kn {w : World} (k : Nat) {A0 : Option Addr} {c0 : Nat} {l0 : List (S52)} {r1 : ByteArray} {r2 : Bool} (h : rollcallref05_Put.f k l0 = some (r1, r2)) {Q1_ : Nat → Prop} (g1 : (V k52 (.slice A0 l0.length c0) l0).P w Q1_) :
  Calls Try.prog 21 #[.slice A0 l0.length c0] w fun e w' => e = .returned (.tuple #[.string r1, .bool r2]) ∧ Below w.heap.size w w' := by
 refine (rollcallref05_Put.calls k A0 c0 l0 r1 r2 w (Kd.V_reads' (e := 0) (base := 0) g1).2.2 (Kd.V_reads' (e := 0) (base := 0) g1).2.1 h).mono ?_
 rintro e w' ⟨y0, y1⟩
 exact ⟨y0, y1⟩
end Go.Proofs.Ytjccgdnnnlgeeaa.XKn
namespace Go.Proofs.Ytjccgdnnnlgeeaa.XFr
open Go.RowKit Go.Proofs.YtjccgdnnnlgeeaaW.PrintWords Go.Proofs.YtjccgdnnnlgeeaaW.PrintLast Go.Proofs.YtjccgdnnnlgeeaaW.PrintMore Go.Proofs.Ytjccgdnnnlgeeaa.PA Go.Proofs.Ytjccgdnnnlgeeaa.XMem Go.Proofs.Ytjccgdnnnlgeeaa.XSt Go.Proofs.Ytjccgdnnnlgeeaa.XQuiet Go.Proofs.Ytjccgdnnnlgeeaa.XKn
open Go.Proofs.Ytjccgdnnnlgeeaa.XSum (Se kSe)
open Go.Proofs.Ytjccgdnnnlgeeaa.XCrc (sealB openB)
set_option linter.unusedVariables false
set_option linter.unusedSimpArgs false
set_option maxRecDepth 100000
abbrev sAnn : ByteArray := ⟨#[97, 110, 110]⟩
abbrev s0 : ByteArray := ⟨#[]⟩
abbrev f1 : Fr := ⟨1, 300, true, sAnn, ⟨4, 0, 5, s0⟩, 0, []⟩
abbrev f2 : Fr := ⟨4, 5, false, s0, zv, 0, []⟩
abbrev f3 : Fr := ⟨4, 0, true, s0, zv, 0, []⟩
abbrev B1 : ByteArray := ⟨#[1, 172, 2, 1, 3, 97, 110, 110, 4, 128, 5, 0]⟩
abbrev B2 : ByteArray := ⟨#[4, 5]⟩
abbrev B3 : ByteArray := ⟨#[5, 0]⟩
theorem may1 : mayF f1 = true := by kernel_rfl
theorem may2 : mayF f2 = true := by kernel_rfl
theorem may3 : mayF f3 = false := by kernel_rfl
theorem mayz : mayF zF = false := by kernel_rfl
theorem plain1 : plainF f1 = B1 := by kernel_rfl
theorem plain2 : plainF f2 = B2 := by kernel_rfl
theorem enc1 : encF f1 = (sealB B1, 0) := by unfold encF; rw [if_pos may1, plain1]
theorem enc2 : encF f2 = (sealB B2, 0) := by unfold encF; rw [if_pos may2, plain2]
theorem enc3 : encF f3 = (⟨#[]⟩, 1) := by unfold encF; rw [if_neg (by rw [may3]; decide)]
theorem dec1 : decF (sealB B1) = (f1, 0) := by rw [← plain1]; exact dec_enc may1 ⟨by decide, by decide⟩
theorem dec2 : decF ⟨#[97, 98, 99]⟩ = (zF, 2) := by kernel_rfl
theorem open3 : openB ⟨#[97, 98, 99, 100, 101, 102]⟩ = (⟨#[]⟩, 4) := by kernel_rfl
theorem dec3 : decF ⟨#[97, 98, 99, 100, 101, 102]⟩ = (zF, 4) := by unfold decF; rw [open3]; rfl
theorem read4 : readF B3 = (zF, false) := by kernel_rfl
theorem dec4 : decF (sealB B3) = (zF, 3) := by unfold decF; rw [open_seal]; simp only; rw [read4]; rfl
theorem same11 : sameArgs frame_Same.f 10 f1 f1 = some true := by kernel_rfl
theorem same1z : sameArgs frame_Same.f 10 f1 zF = some false := by kernel_rfl
theorem nilV (w : World) : (V kSe (.slice none 0 0) []).P w (fun _ => True) := V_any (Kd.V_nil kSe 0 w 0 _)
attribute [local go_sem high] eqA23

theorem E1 (w : World)  : Calls Try.prog 11 #[.agg #[.int .i64 1, .int .i64 300, .bool true, .string sAnn, .int .i64 4, .int .i64 0, .int .i64 5, .string s0, .int .u64 0, .slice none 0 0]] w fun e w' => e = .returned (.tuple #[.string (sealB B1), .int .i64 0]) ∧ Below w.heap.size w w' := by
 have h := enc_kn (f := f1) (A := none) (c := 0) (by decide) (fun x hx => (nomatch hx)) (by decide) ⟨by decide, by decide⟩ (nilV w)
 rw [enc1] at h
 exact h
theorem E2 (w : World)  : Calls Try.prog 11 #[.agg #[.int .i64 4, .int .i64 5, .bool false, .string s0, .int .i64 0, .int .i64 0, .int .i64 0, .string s0, .int .u64 0, .slice none 0 0]] w fun e w' => e = .returned (.tuple #[.string (sealB B2), .int .i64 0]) ∧ Below w.heap.size w w' := by
 have h := enc_kn (f := f2) (A := none) (c := 0) (by decide) (fun x hx => (nomatch hx)) (by decide) ⟨by decide, by decide⟩ (nilV w)
 rw [enc2] at h
 exact h
theorem E3 (w : World)  : Calls Try.prog 11 #[.agg #[.int .i64 4, .int .i64 0, .bool true, .string s0, .int .i64 0, .int .i64 0, .int .i64 0, .string s0, .int .u64 0, .slice none 0 0]] w fun e w' => e = .returned (.tuple #[.string ⟨#[]⟩, .int .i64 1]) ∧ Below w.heap.size w w' := by
 have h := enc_kn (f := f3) (A := none) (c := 0) (by decide) (fun x hx => (nomatch hx)) (by decide) ⟨by decide, by decide⟩ (nilV w)
 rw [enc3] at h
 exact h
theorem D1 (w : World)  : Calls Try.prog 17 #[.string (sealB B1)] w fun e w' => ∃ A c, e = .returned (.tuple #[.agg #[.int .i64 1, .int .i64 300, .bool true, .string sAnn, .int .i64 4, .int .i64 0, .int .i64 5, .string s0, .int .u64 0, .slice A 0 c], .int .i64 0]) ∧ (V kSe (.slice A 0 c) []).P w' (fun k => w.heap.size ≤ k) ∧ Below w.heap.size w w' := by
 have h := dec_calls (sealB B1) (by rw [sealB_size]; decide) w
 rw [dec1] at h
 exact h
theorem D2 (w : World)  : Calls Try.prog 17 #[.string ⟨#[97, 98, 99]⟩] w fun e w' => ∃ A c, e = .returned (.tuple #[.agg #[.int .i64 0, .int .i64 0, .bool false, .string s0, .int .i64 0, .int .i64 0, .int .i64 0, .string s0, .int .u64 0, .slice A 0 c], .int .i64 2]) ∧ (V kSe (.slice A 0 c) []).P w' (fun k => w.heap.size ≤ k) ∧ Below w.heap.size w w' := by
 have h := dec_calls ⟨#[97, 98, 99]⟩ (by decide) w
 rw [dec2] at h
 exact h
theorem D3 (w : World)  : Calls Try.prog 17 #[.string ⟨#[97, 98, 99, 100, 101, 102]⟩] w fun e w' => ∃ A c, e = .returned (.tuple #[.agg #[.int .i64 0, .int .i64 0, .bool false, .string s0, .int .i64 0, .int .i64 0, .int .i64 0, .string s0, .int .u64 0, .slice A 0 c], .int .i64 4]) ∧ (V kSe (.slice A 0 c) []).P w' (fun k => w.heap.size ≤ k) ∧ Below w.heap.size w w' := by
 have h := dec_calls ⟨#[97, 98, 99, 100, 101, 102]⟩ (by decide) w
 rw [dec3] at h
 exact h
theorem D4 (w : World)  : Calls Try.prog 17 #[.string (sealB B3)] w fun e w' => ∃ A c, e = .returned (.tuple #[.agg #[.int .i64 0, .int .i64 0, .bool false, .string s0, .int .i64 0, .int .i64 0, .int .i64 0, .string s0, .int .u64 0, .slice A 0 c], .int .i64 3]) ∧ (V kSe (.slice A 0 c) []).P w' (fun k => w.heap.size ≤ k) ∧ Below w.heap.size w w' := by
 have h := dec_calls (sealB B3) (by rw [sealB_size]; decide) w
 rw [dec4] at h
 exact h
theorem M1 (w : World) {A : Option Addr} {c : Nat} (g : (V kSe (.slice A 0 c) []).P w (fun _ => True)) : Calls Try.prog 13 #[.agg #[.int .i64 1, .int .i64 300, .bool true, .string sAnn, .int .i64 4, .int .i64 0, .int .i64 5, .string s0, .int .u64 0, .slice A 0 c]] w fun e w' => e = .returned (.bool true) ∧ Below w.heap.size w w' := by
 have h := may_kn (f := f1) (A := A) (c := c) (by decide) (fun x hx => (nomatch hx)) (by decide) ⟨by decide, by decide⟩ g
 rw [may1] at h
 exact h
theorem Mz (w : World)  : Calls Try.prog 13 #[.agg #[.int .i64 0, .int .i64 0, .bool false, .string s0, .int .i64 0, .int .i64 0, .int .i64 0, .string s0, .int .u64 0, .slice none 0 0]] w fun e w' => e = .returned (.bool false) ∧ Below w.heap.size w w' := by
 have h := may_kn (f := zF) (A := none) (c := 0) (by decide) (fun x hx => (nomatch hx)) (by decide) ⟨by decide, by decide⟩ (nilV w)
 rw [mayz] at h
 exact h
theorem S1 (w : World) {A : Option Addr} {c : Nat} (g : (V kSe (.slice A 0 c) []).P w (fun _ => True)) : Calls Try.prog 15 #[.agg #[.int .i64 1, .int .i64 300, .bool true, .string sAnn, .int .i64 4, .int .i64 0, .int .i64 5, .string s0, .int .u64 0, .slice A 0 c], .agg #[.int .i64 1, .int .i64 300, .bool true, .string sAnn, .int .i64 4, .int .i64 0, .int .i64 5, .string s0, .int .u64 0, .slice A 0 c]] w fun e w' => e = .returned (.bool true) ∧ Below w.heap.size w w' := by
 have h := frame_Same.kn (l0_9 := []) (l1_9 := []) 10 same11 g g
 exact h
theorem Sz (w : World) {A : Option Addr} {c : Nat} (g : (V kSe (.slice A 0 c) []).P w (fun _ => True)) : Calls Try.prog 15 #[.agg #[.int .i64 1, .int .i64 300, .bool true, .string sAnn, .int .i64 4, .int .i64 0, .int .i64 5, .string s0, .int .u64 0, .slice A 0 c], .agg #[.int .i64 0, .int .i64 0, .bool false, .string s0, .int .i64 0, .int .i64 0, .int .i64 0, .string s0, .int .u64 0, .slice none 0 0]] w fun e w' => e = .returned (.bool false) ∧ Below w.heap.size w w' := by
 have h := frame_Same.kn (l0_9 := []) (l1_9 := []) 10 same1z g (nilV w)
 exact h
theorem L1 (w : World)  : Calls Try.prog 19 #[.string B1] w fun e w' => e = .returned (.string (sealB B1)) ∧ Below w.heap.size w w' := by
 exact rollcallref02_Seal.kn 200 (refSeal_b 200 B1 (by decide) (by decide))
theorem L2 (w : World)  : Calls Try.prog 19 #[.string B2] w fun e w' => e = .returned (.string (sealB B2)) ∧ Below w.heap.size w w' := by
 exact rollcallref02_Seal.kn 200 (refSeal_b 200 B2 (by decide) (by decide))
theorem L3 (w : World)  : Calls Try.prog 19 #[.string B3] w fun e w' => e = .returned (.string (sealB B3)) ∧ Below w.heap.size w w' := by
 exact rollcallref02_Seal.kn 200 (refSeal_b 200 B3 (by decide) (by decide))
set_option maxHeartbeats 8000000 in
theorem live_go (ok : Nat → Prop) (w0 w : World) (S : Kn ok w0 [] nil tt [] w) : Calls Try.prog 10 #[] w fun e w' => e = .returned (.bool true) ∧ Below w0.heap.size w0 w' := by
 have HE1 := Aside0.mk E1
 have HE2 := Aside0.mk E2
 have HE3 := Aside0.mk E3
 have HD1 := Aside0.mk D1
 have HD2 := Aside0.mk D2
 have HD3 := Aside0.mk D3
 have HD4 := Aside0.mk D4
 have HMz := Aside0.mk Mz
 have HL1 := Aside0.mk L1
 have HL2 := Aside0.mk L2
 have HL3 := Aside0.mk L3
 have HM1 := Aside0.mk @M1
 have HS1 := Aside0.mk @S1
 have HSz := Aside0.mk @Sz
 generalize sealB B1 = q1 at *
 generalize sealB B2 = q2 at *
 generalize sealB B3 = q3 at *
 have e1 : (q1.toList == q1.toList) = true := by simp
 have e2 : (q2.toList == q2.toList) = true := by simp
 have e3 : (sAnn.toList == sAnn.toList) = true := by simp
 have e4 : (s0.toList == s0.toList) = true := by simp
 go_enter Try.func10, Try.ntmps10
 go_upto_region 2 with (fail)
 generalize hg : World.alloc _ _ = w1
 replace S := S.new hg
 clear hg
 generalize w.heap.size = p1 at S ⊢
 replace S : Kn ok w0 [(p1, .cells #[.int .i64 4, .int .i64 0, .int .i64 5, .string s0] 23 (0, 0))] nil tt [] w1 := S
 have v_0 : w1.cell? ⟨p1, 0, none⟩ = some (.int .i64 4) := S.cell 0 0 rfl rfl
 have v_1 : w1.cell? ⟨p1, 1, none⟩ = some (.int .i64 0) := S.cell 0 1 rfl rfl
 have v_2 : w1.cell? ⟨p1, 2, none⟩ = some (.int .i64 5) := S.cell 0 2 rfl rfl
 have v_3 : w1.cell? ⟨p1, 3, none⟩ = some (.string s0) := S.cell 0 3 rfl rfl
 go_wp2_with fail
 refine (HE1.out _).mono ?_
 rintro e w2 ⟨rfl, hb⟩
 replace S := S.below hb
 clear v_0 v_1 v_2 v_3 hb HE1
 go_wp2_with fail
 refine (HD1.out _).mono ?_
 rintro e w3 ⟨A1, c1, rfl, hV, hb⟩
 replace S := S.call (f := (V kSe (.slice A1 0 c1) [])) hb (Ft.mono _ hV (fun k hk => Or.inr hk))
 clear hb hV HD1
 go_upto_region 4 with (fail)
 generalize hg : World.alloc _ _ = w4
 replace S := S.new hg
 clear hg
 generalize w3.heap.size = p4 at S ⊢
 replace S : Kn ok w0 [(p4, .cells #[.int .i64 1, .int .i64 300, .bool true, .string sAnn, .int .i64 4, .int .i64 0, .int .i64 5, .string s0, .int .u64 0, .slice A1 0 c1] TFr (0, 0)), (p1, .cells #[.int .i64 4, .int .i64 0, .int .i64 5, .string s0] 23 (0, 0))] nil tt [V kSe (.slice A1 0 c1) []] w4 := S
 go_wp2_with fail
 refine (HE2.out _).mono ?_
 rintro e w5 ⟨rfl, hb⟩
 replace S := S.below hb
 clear hb HE2
 go_wp2_with fail
 refine (HE3.out _).mono ?_
 rintro e w6 ⟨rfl, hb⟩
 replace S := S.below hb
 clear hb HE3
 go_wp2_with fail
 refine (HD2.out _).mono ?_
 rintro e w7 ⟨A2, c2, rfl, hV, hb⟩
 replace S := S.call (f := (V kSe (.slice A2 0 c2) [])) hb (Ft.mono _ hV (fun k hk => Or.inr hk))
 clear hb hV HD2
 go_upto_region 7 with (fail)
 generalize hg : World.alloc _ _ = w8
 replace S := S.new hg
 clear hg
 generalize w7.heap.size = p10 at S ⊢
 replace S : Kn ok w0 [(p10, .cells #[.int .i64 0, .int .i64 0, .bool false, .string s0, .int .i64 0, .int .i64 0, .int .i64 0, .string s0, .int .u64 0, .slice A2 0 c2] TFr (0, 0)), (p4, .cells #[.int .i64 1, .int .i64 300, .bool true, .string sAnn, .int .i64 4, .int .i64 0, .int .i64 5, .string s0, .int .u64 0, .slice A1 0 c1] TFr (0, 0)), (p1, .cells #[.int .i64 4, .int .i64 0, .int .i64 5, .string s0] 23 (0, 0))] nil tt [V kSe (.slice A2 0 c2) [], V kSe (.slice A1 0 c1) []] w8 := S
 go_wp2_with fail
 refine (HD3.out _).mono ?_
 rintro e w9 ⟨A3, c3, rfl, hV, hb⟩
 replace S := S.call (f := (V kSe (.slice A3 0 c3) [])) hb (Ft.mono _ hV (fun k hk => Or.inr hk))
 clear hb hV HD3
 go_upto_region 8 with (fail)
 generalize hg : World.alloc _ _ = w10
 replace S := S.new hg
 clear hg
 generalize w9.heap.size = p12 at S ⊢
 replace S : Kn ok w0 [(p12, .cells #[.int .i64 0, .int .i64 0, .bool false, .string s0, .int .i64 0, .int .i64 0, .int .i64 0, .string s0, .int .u64 0, .slice A3 0 c3] TFr (0, 0)), (p10, .cells #[.int .i64 0, .int .i64 0, .bool false, .string s0, .int .i64 0, .int .i64 0, .int .i64 0, .string s0, .int .u64 0, .slice A2 0 c2] TFr (0, 0)), (p4, .cells #[.int .i64 1, .int .i64 300, .bool true, .string sAnn, .int .i64 4, .int .i64 0, .int .i64 5, .string s0, .int .u64 0, .slice A1 0 c1] TFr (0, 0)), (p1, .cells #[.int .i64 4, .int .i64 0, .int .i64 5, .string s0] 23 (0, 0))] nil tt [V kSe (.slice A3 0 c3) [], V kSe (.slice A2 0 c2) [], V kSe (.slice A1 0 c1) []] w10 := S
 go_wp2_with fail
 refine (HL3.out _).mono ?_
 rintro e w11 ⟨rfl, hb⟩
 replace S := S.below hb
 clear hb HL3
 go_wp2_with fail
 refine (HD4.out _).mono ?_
 rintro e w12 ⟨A4, c4, rfl, hV, hb⟩
 replace S := S.call (f := (V kSe (.slice A4 0 c4) [])) hb (Ft.mono _ hV (fun k hk => Or.inr hk))
 clear hb hV HD4
 go_upto_region 9 with (fail)
 generalize hg : World.alloc _ _ = w13
 replace S := S.new hg
 clear hg
 generalize w12.heap.size = p14 at S ⊢
 replace S : Kn ok w0 [(p14, .cells #[.int .i64 0, .int .i64 0, .bool false, .string s0, .int .i64 0, .int .i64 0, .int .i64 0, .string s0, .int .u64 0, .slice A4 0 c4] TFr (0, 0)), (p12, .cells #[.int .i64 0, .int .i64 0, .bool false, .string s0, .int .i64 0, .int .i64 0, .int .i64 0, .string s0, .int .u64 0, .slice A3 0 c3] TFr (0, 0)), (p10, .cells #[.int .i64 0, .int .i64 0, .bool false, .string s0, .int .i64 0, .int .i64 0, .int .i64 0, .string s0, .int .u64 0, .slice A2 0 c2] TFr (0, 0)), (p4, .cells #[.int .i64 1, .int .i64 300, .bool true, .string sAnn, .int .i64 4, .int .i64 0, .int .i64 5, .string s0, .int .u64 0, .slice A1 0 c1] TFr (0, 0)), (p1, .cells #[.int .i64 4, .int .i64 0, .int .i64 5, .string s0] 23 (0, 0))] nil tt [V kSe (.slice A4 0 c4) [], V kSe (.slice A3 0 c3) [], V kSe (.slice A2 0 c2) [], V kSe (.slice A1 0 c1) []] w13 := S
 have f_0 : w13.cell? ⟨p4, 0, none⟩ = some (.int .i64 1) := S.cell 3 0 rfl rfl
 have f_1 : w13.cell? ⟨p4, 1, none⟩ = some (.int .i64 300) := S.cell 3 1 rfl rfl
 have f_2 : w13.cell? ⟨p4, 2, none⟩ = some (.bool true) := S.cell 3 2 rfl rfl
 have f_3 : w13.cell? ⟨p4, 3, none⟩ = some (.string sAnn) := S.cell 3 3 rfl rfl
 have f_4 : w13.cell? ⟨p4, 4, none⟩ = some (.int .i64 4) := S.cell 3 4 rfl rfl
 have f_5 : w13.cell? ⟨p4, 5, none⟩ = some (.int .i64 0) := S.cell 3 5 rfl rfl
 have f_6 : w13.cell? ⟨p4, 6, none⟩ = some (.int .i64 5) := S.cell 3 6 rfl rfl
 have f_7 : w13.cell? ⟨p4, 7, none⟩ = some (.string s0) := S.cell 3 7 rfl rfl
 have f_8 : w13.cell? ⟨p4, 8, none⟩ = some (.int .u64 0) := S.cell 3 8 rfl rfl
 have f_9 : w13.cell? ⟨p4, 9, none⟩ = some (.slice A1 0 c1) := S.cell 3 9 rfl rfl
 have v_0 : w13.cell? ⟨p1, 0, none⟩ = some (.int .i64 4) := S.cell 4 0 rfl rfl
 have v_1 : w13.cell? ⟨p1, 1, none⟩ = some (.int .i64 0) := S.cell 4 1 rfl rfl
 have v_2 : w13.cell? ⟨p1, 2, none⟩ = some (.int .i64 5) := S.cell 4 2 rfl rfl
 have v_3 : w13.cell? ⟨p1, 3, none⟩ = some (.string s0) := S.cell 4 3 rfl rfl
 go_wp2_with fail
 refine (HL1.out _).mono ?_
 rintro e w14 ⟨rfl, hb⟩
 replace S := S.below hb
 clear f_0 f_1 f_2 f_3 f_4 f_5 f_6 f_7 f_8 f_9 v_0 v_1 v_2 v_3 hb
 have f_0 : w14.cell? ⟨p4, 0, none⟩ = some (.int .i64 1) := S.cell 3 0 rfl rfl
 have f_1 : w14.cell? ⟨p4, 1, none⟩ = some (.int .i64 300) := S.cell 3 1 rfl rfl
 have f_2 : w14.cell? ⟨p4, 2, none⟩ = some (.bool true) := S.cell 3 2 rfl rfl
 have f_3 : w14.cell? ⟨p4, 3, none⟩ = some (.string sAnn) := S.cell 3 3 rfl rfl
 have f_4 : w14.cell? ⟨p4, 4, none⟩ = some (.int .i64 4) := S.cell 3 4 rfl rfl
 have f_5 : w14.cell? ⟨p4, 5, none⟩ = some (.int .i64 0) := S.cell 3 5 rfl rfl
 have f_6 : w14.cell? ⟨p4, 6, none⟩ = some (.int .i64 5) := S.cell 3 6 rfl rfl
 have f_7 : w14.cell? ⟨p4, 7, none⟩ = some (.string s0) := S.cell 3 7 rfl rfl
 have f_8 : w14.cell? ⟨p4, 8, none⟩ = some (.int .u64 0) := S.cell 3 8 rfl rfl
 have f_9 : w14.cell? ⟨p4, 9, none⟩ = some (.slice A1 0 c1) := S.cell 3 9 rfl rfl
 have v_0 : w14.cell? ⟨p1, 0, none⟩ = some (.int .i64 4) := S.cell 4 0 rfl rfl
 have v_1 : w14.cell? ⟨p1, 1, none⟩ = some (.int .i64 0) := S.cell 4 1 rfl rfl
 have v_2 : w14.cell? ⟨p1, 2, none⟩ = some (.int .i64 5) := S.cell 4 2 rfl rfl
 have v_3 : w14.cell? ⟨p1, 3, none⟩ = some (.string s0) := S.cell 4 3 rfl rfl
 go_wp2_with fail
 refine (HL2.out _).mono ?_
 rintro e w15 ⟨rfl, hb⟩
 replace S := S.below hb
 clear f_0 f_1 f_2 f_3 f_4 f_5 f_6 f_7 f_8 f_9 v_0 v_1 v_2 v_3 hb
 have f_0 : w15.cell? ⟨p4, 0, none⟩ = some (.int .i64 1) := S.cell 3 0 rfl rfl
 have f_1 : w15.cell? ⟨p4, 1, none⟩ = some (.int .i64 300) := S.cell 3 1 rfl rfl
 have f_2 : w15.cell? ⟨p4, 2, none⟩ = some (.bool true) := S.cell 3 2 rfl rfl
 have f_3 : w15.cell? ⟨p4, 3, none⟩ = some (.string sAnn) := S.cell 3 3 rfl rfl
 have f_4 : w15.cell? ⟨p4, 4, none⟩ = some (.int .i64 4) := S.cell 3 4 rfl rfl
 have f_5 : w15.cell? ⟨p4, 5, none⟩ = some (.int .i64 0) := S.cell 3 5 rfl rfl
 have f_6 : w15.cell? ⟨p4, 6, none⟩ = some (.int .i64 5) := S.cell 3 6 rfl rfl
 have f_7 : w15.cell? ⟨p4, 7, none⟩ = some (.string s0) := S.cell 3 7 rfl rfl
 have f_8 : w15.cell? ⟨p4, 8, none⟩ = some (.int .u64 0) := S.cell 3 8 rfl rfl
 have f_9 : w15.cell? ⟨p4, 9, none⟩ = some (.slice A1 0 c1) := S.cell 3 9 rfl rfl
 have v_0 : w15.cell? ⟨p1, 0, none⟩ = some (.int .i64 4) := S.cell 4 0 rfl rfl
 have v_1 : w15.cell? ⟨p1, 1, none⟩ = some (.int .i64 0) := S.cell 4 1 rfl rfl
 have v_2 : w15.cell? ⟨p1, 2, none⟩ = some (.int .i64 5) := S.cell 4 2 rfl rfl
 have v_3 : w15.cell? ⟨p1, 3, none⟩ = some (.string s0) := S.cell 4 3 rfl rfl
 go_wp2_with fail
 refine (HM1.out _ (Ft.all (S.ft 3 rfl))).mono ?_
 rintro e w16 ⟨rfl, hb⟩
 replace S := S.below hb
 clear f_0 f_1 f_2 f_3 f_4 f_5 f_6 f_7 f_8 f_9 v_0 v_1 v_2 v_3 hb
 have f_0 : w16.cell? ⟨p4, 0, none⟩ = some (.int .i64 1) := S.cell 3 0 rfl rfl
 have f_1 : w16.cell? ⟨p4, 1, none⟩ = some (.int .i64 300) := S.cell 3 1 rfl rfl
 have f_2 : w16.cell? ⟨p4, 2, none⟩ = some (.bool true) := S.cell 3 2 rfl rfl
 have f_3 : w16.cell? ⟨p4, 3, none⟩ = some (.string sAnn) := S.cell 3 3 rfl rfl
 have f_4 : w16.cell? ⟨p4, 4, none⟩ = some (.int .i64 4) := S.cell 3 4 rfl rfl
 have f_5 : w16.cell? ⟨p4, 5, none⟩ = some (.int .i64 0) := S.cell 3 5 rfl rfl
 have f_6 : w16.cell? ⟨p4, 6, none⟩ = some (.int .i64 5) := S.cell 3 6 rfl rfl
 have f_7 : w16.cell? ⟨p4, 7, none⟩ = some (.string s0) := S.cell 3 7 rfl rfl
 have f_8 : w16.cell? ⟨p4, 8, none⟩ = some (.int .u64 0) := S.cell 3 8 rfl rfl
 have f_9 : w16.cell? ⟨p4, 9, none⟩ = some (.slice A1 0 c1) := S.cell 3 9 rfl rfl
 have v_0 : w16.cell? ⟨p1, 0, none⟩ = some (.int .i64 4) := S.cell 4 0 rfl rfl
 have v_1 : w16.cell? ⟨p1, 1, none⟩ = some (.int .i64 0) := S.cell 4 1 rfl rfl
 have v_2 : w16.cell? ⟨p1, 2, none⟩ = some (.int .i64 5) := S.cell 4 2 rfl rfl
 have v_3 : w16.cell? ⟨p1, 3, none⟩ = some (.string s0) := S.cell 4 3 rfl rfl
 go_wp2_with fail
 refine (HMz.out _).mono ?_
 rintro e w17 ⟨rfl, hb⟩
 replace S := S.below hb
 clear f_0 f_1 f_2 f_3 f_4 f_5 f_6 f_7 f_8 f_9 v_0 v_1 v_2 v_3 hb
 have f_0 : w17.cell? ⟨p4, 0, none⟩ = some (.int .i64 1) := S.cell 3 0 rfl rfl
 have f_1 : w17.cell? ⟨p4, 1, none⟩ = some (.int .i64 300) := S.cell 3 1 rfl rfl
 have f_2 : w17.cell? ⟨p4, 2, none⟩ = some (.bool true) := S.cell 3 2 rfl rfl
 have f_3 : w17.cell? ⟨p4, 3, none⟩ = some (.string sAnn) := S.cell 3 3 rfl rfl
 have f_4 : w17.cell? ⟨p4, 4, none⟩ = some (.int .i64 4) := S.cell 3 4 rfl rfl
 have f_5 : w17.cell? ⟨p4, 5, none⟩ = some (.int .i64 0) := S.cell 3 5 rfl rfl
 have f_6 : w17.cell? ⟨p4, 6, none⟩ = some (.int .i64 5) := S.cell 3 6 rfl rfl
 have f_7 : w17.cell? ⟨p4, 7, none⟩ = some (.string s0) := S.cell 3 7 rfl rfl
 have f_8 : w17.cell? ⟨p4, 8, none⟩ = some (.int .u64 0) := S.cell 3 8 rfl rfl
 have f_9 : w17.cell? ⟨p4, 9, none⟩ = some (.slice A1 0 c1) := S.cell 3 9 rfl rfl
 have v_0 : w17.cell? ⟨p1, 0, none⟩ = some (.int .i64 4) := S.cell 4 0 rfl rfl
 have v_1 : w17.cell? ⟨p1, 1, none⟩ = some (.int .i64 0) := S.cell 4 1 rfl rfl
 have v_2 : w17.cell? ⟨p1, 2, none⟩ = some (.int .i64 5) := S.cell 4 2 rfl rfl
 have v_3 : w17.cell? ⟨p1, 3, none⟩ = some (.string s0) := S.cell 4 3 rfl rfl
 go_wp2_with fail
 refine (HS1.out _ (Ft.all (S.ft 3 rfl))).mono ?_
 rintro e w18 ⟨rfl, hb⟩
 replace S := S.below hb
 clear f_0 f_1 f_2 f_3 f_4 f_5 f_6 f_7 f_8 f_9 v_0 v_1 v_2 v_3 hb
 have f_0 : w18.cell? ⟨p4, 0, none⟩ = some (.int .i64 1) := S.cell 3 0 rfl rfl
 have f_1 : w18.cell? ⟨p4, 1, none⟩ = some (.int .i64 300) := S.cell 3 1 rfl rfl
 have f_2 : w18.cell? ⟨p4, 2, none⟩ = some (.bool true) := S.cell 3 2 rfl rfl
 have f_3 : w18.cell? ⟨p4, 3, none⟩ = some (.string sAnn) := S.cell 3 3 rfl rfl
 have f_4 : w18.cell? ⟨p4, 4, none⟩ = some (.int .i64 4) := S.cell 3 4 rfl rfl
 have f_5 : w18.cell? ⟨p4, 5, none⟩ = some (.int .i64 0) := S.cell 3 5 rfl rfl
 have f_6 : w18.cell? ⟨p4, 6, none⟩ = some (.int .i64 5) := S.cell 3 6 rfl rfl
 have f_7 : w18.cell? ⟨p4, 7, none⟩ = some (.string s0) := S.cell 3 7 rfl rfl
 have f_8 : w18.cell? ⟨p4, 8, none⟩ = some (.int .u64 0) := S.cell 3 8 rfl rfl
 have f_9 : w18.cell? ⟨p4, 9, none⟩ = some (.slice A1 0 c1) := S.cell 3 9 rfl rfl
 have v_0 : w18.cell? ⟨p1, 0, none⟩ = some (.int .i64 4) := S.cell 4 0 rfl rfl
 have v_1 : w18.cell? ⟨p1, 1, none⟩ = some (.int .i64 0) := S.cell 4 1 rfl rfl
 have v_2 : w18.cell? ⟨p1, 2, none⟩ = some (.int .i64 5) := S.cell 4 2 rfl rfl
 have v_3 : w18.cell? ⟨p1, 3, none⟩ = some (.string s0) := S.cell 4 3 rfl rfl
 go_wp2_with fail
 refine (HSz.out _ (Ft.all (S.ft 3 rfl))).mono ?_
 rintro e w19 ⟨rfl, hb⟩
 replace S := S.below hb
 clear f_0 f_1 f_2 f_3 f_4 f_5 f_6 f_7 f_8 f_9 v_0 v_1 v_2 v_3 hb
 go_wp2
 go_ret
 exact ⟨rfl, S.bel⟩
theorem live_walk (w : World) : Calls Try.prog 10 #[] w fun e w' => e = .returned (.bool true) ∧ Below w.heap.size w w' := live_go (fun _ => True) w w (Kn.start _ w)
end Go.Proofs.Ytjccgdnnnlgeeaa.XFr
end

section
/- What came in and reads as data is of its kind: a law's arguments of whatever type (numbers, bools, texts, slices, structs, arrays of these, one in the other), opened by their kinds. -/

namespace Go.Proofs.Ytjccgdnnnlgeeaa.XOpen
open Go.RowKit Go.ChangeShapes Go.WideShapes Go.Deep Go.Proofs.YtjccgdnnnlgeeaaW.PrintWords Go.Proofs.YtjccgdnnnlgeeaaW.PrintLast Go.Proofs.YtjccgdnnnlgeeaaW.PrintMore
set_option linter.unusedVariables false
set_option linter.unusedSimpArgs false

/-- Whatever reads as data at type t is of kind d, and within its bounds. -/
def Opens (P : Program) (t : TypeId) {α : Type} (d : Kd α) (Ok : α → Prop) : Prop :=
 ∀ {H : Type} (enc : TypeId × Value → H) (w : World) (base : Nat) (spare : Nat → Bool) (held : Bool) (fuel : Nat) (cs : List Value) (x : DataW H × List MemPlace),
  DataW.trod enc P w base spare held fuel t cs = some x → ∃ a, d.K w a cs ∧ Ok a
/-- The same of a struct's fields (an array's elements), one behind the other. -/
def OpensL (P : Program) (ts : List TypeId) {α : Type} (d : Kd α) (Ok : α → Prop) : Prop :=
 ∀ {H : Type} (enc : TypeId × Value → H) (w : World) (base : Nat) (spare : Nat → Bool) (held : Bool) (fuel : Nat) (css : List (List Value)),
  css.length = ts.length → (∀ (j : Nat) (t : TypeId) (cs : List Value), ts[j]? = some t → css[j]? = some cs → ∃ x : DataW H × List MemPlace, DataW.trod enc P w base spare held fuel t cs = some x) → ∃ a, d.K w a css.flatten ∧ Ok a
section
variable {P : Program} {t e : TypeId}
theorem Opens.int {k : IntKind} (ht : P.underlying t = some (.int k)) : Opens P t (Kd.int k) (fun n => (Lit.int k n).wf = true) := by
 intro H enc w base spare held fuel cs x h
 obtain ⟨n, rfl, _, hw⟩ := DataW.trod_int ht h
 exact ⟨n, rfl, hw⟩
theorem Opens.bool (ht : P.underlying t = some .bool) : Opens P t Kd.bool (fun _ => True) := by
 intro H enc w base spare held fuel cs x h
 obtain ⟨n, rfl, _⟩ := DataW.trod_bool ht h
 exact ⟨n, rfl, trivial⟩
theorem Opens.string (ht : P.underlying t = some .string) : Opens P t Kd.string (fun s => s.size ≤ maxLen) := by
 intro H enc w base spare held fuel cs x h
 obtain ⟨s, rfl, _, hw⟩ := DataW.trod_string ht h
 exact ⟨s, rfl, hw⟩
theorem Opens.slice {α : Type} {d : Kd α} {Ok : α → Prop} (ht : P.underlying t = some (.slice e)) (hc : P.cellsOf e = d.sz) (z : α) (hd : Opens P e d Ok) : Opens P t (Kd.slice e d) (fun l => l.length ≤ maxLen ∧ ∀ a ∈ l, Ok a) := by
 intro H enc w base spare held fuel cs x h
 rcases open_slice ht h with ⟨rfl, _⟩ | ⟨a, len, cap, m, n, D, Pl, rfl, hb, hl, hm, hmm, _, hx⟩
 ·exact ⟨[], ⟨none, 0, rfl, Nat.le_refl _, ⟨rfl, Nat.zero_le _, fun h => absurd h (Nat.lt_irrefl _)⟩⟩, Nat.zero_le _, fun a ha => by cases ha⟩
 ·have hlm : len ≤ m := by rw [hmm]; split <;> omega
  have : Inhabited α := ⟨z⟩
  obtain ⟨f, hf⟩ := choose_lt (α := α) (n := len) (p := fun i a' => ∃ cs', w.cells? base (a.add (i * d.sz)) d.sz = some cs' ∧ d.K w a' cs' ∧ Ok a') (fun i hi => by
   obtain ⟨cs', h1, h2⟩ := hx i (by omega)
   obtain ⟨a', h3, h4⟩ := hd enc w base spare held n cs' _ h2
   rw [hc] at h1
   exact ⟨a', cs', h1, h3, h4⟩)
  refine ⟨(List.range len).map f, ⟨some a, cap, by simp, by simpa using hl, ?_⟩, by simp; omega, ?_⟩
  ·refine ⟨by simp, by simp; unfold maxLen at hm; omega, fun _ => ⟨a, rfl, fun j p hj => ?_⟩⟩
   have hjl : j < len := by
    have := (List.getElem?_eq_some_iff.1 hj).1
    simpa using this
   have hp : f j = p := by simpa [List.getElem?_map, hjl] using hj
   subst hp
   obtain ⟨cs', h1, h2, _⟩ := hf j hjl
   obtain ⟨_, h3, h4⟩ := World.cells?_some h1
   refine ⟨cs', h3, h2, fun i u hi => ?_⟩
   have hil : i < d.sz := by rw [← h3]; exact (List.getElem?_eq_some_iff.1 hi).1
   rw [← Go.Deep.add_add, h4 i hil, hi]
  ·intro b hb'
   obtain ⟨j, hj, rfl⟩ := List.mem_map.1 hb'
   obtain ⟨_, _, _, h⟩ := hf j (by simpa using hj)
   exact h
theorem OpensL.one {α : Type} {d : Kd α} {Ok : α → Prop} (h : Opens P t d Ok) : OpensL P [t] d Ok := by
 intro H enc w base spare held fuel css hl hx
 match css, hl with
 | [cs], _ =>
  obtain ⟨x, h1⟩ := hx 0 t cs rfl rfl
  obtain ⟨a, h2⟩ := h enc w base spare held fuel cs x h1
  exact ⟨a, by simpa using h2⟩
theorem OpensL.cons {ts : List TypeId} {α β : Type} {d : Kd α} {Ok : α → Prop} {d2 : Kd β} {Ok2 : β → Prop} (h : Opens P t d Ok) (h2 : OpensL P ts d2 Ok2) : OpensL P (t :: ts) (Kd.pair d d2) (fun x => Ok x.1 ∧ Ok2 x.2) := by
 intro H enc w base spare held fuel css hl hx
 match css, hl with
 | cs :: css, hl =>
  obtain ⟨x, h1⟩ := hx 0 t cs rfl rfl
  obtain ⟨a, h3, h4⟩ := h enc w base spare held fuel cs x h1
  obtain ⟨b, h5, h6⟩ := h2 enc w base spare held fuel css (by simpa using hl) (fun j t' cs' hj hj' => hx (j + 1) t' cs' (by simpa using hj) (by simpa using hj'))
  exact ⟨(a, b), ⟨cs, css.flatten, rfl, h3, h5⟩, h4, h6⟩
theorem Opens.iso {α β : Type} {d : Kd α} {Ok : α → Prop} (h : Opens P t d Ok) (f : β → α) (g : α → β) (hfg : ∀ a, f (g a) = a) : Opens P t (Kd.iso d f) (fun b => Ok (f b)) := by
 intro H enc w base spare held fuel cs x hx
 obtain ⟨a, h1, h2⟩ := h enc w base spare held fuel cs x hx
 exact ⟨g a, by show d.K w (f (g a)) cs; rw [hfg]; exact h1, by show Ok (f (g a)); rw [hfg]; exact h2⟩
/-- Cells, cut at the fields. -/
def cuts (cs : List Value) : List Nat → List (List Value)
 | [] => []
 | n :: ns => cs.take n :: cuts (cs.drop n) ns
theorem cuts_len : ∀ (cs : List Value) (ns : List Nat), (cuts cs ns).length = ns.length
 | _, [] => rfl
 | cs, n :: ns => by simp [cuts, cuts_len]
theorem cuts_flat : ∀ (cs : List Value) (ns : List Nat), cs.length = ns.sum → (cuts cs ns).flatten = cs
 | cs, [], h => by
  have : cs = [] := List.length_eq_zero_iff.1 (by simpa using h)
  simp [cuts, this]
 | cs, n :: ns, h => by
  simp only [List.sum_cons] at h
  simp only [cuts, List.flatten_cons]
  rw [cuts_flat (cs.drop n) ns (by rw [List.length_drop]; omega), List.take_append_drop]
theorem cuts_get : ∀ (cs : List Value) (ns : List Nat) (j : Nat) (n : Nat), ns[j]? = some n → (cuts cs ns)[j]? = some ((cs.drop (ns.take j).sum).take n)
 | _, [], _, _, h => by simp at h
 | cs, m :: ns, 0, n, h => by
  have : m = n := by simpa using h
  subst this
  simp [cuts]
 | cs, m :: ns, j + 1, n, h => by
  have := cuts_get (cs.drop m) ns j n (by simpa using h)
  simp only [cuts, List.getElem?_cons_succ, this, List.take_succ_cons, List.sum_cons, List.drop_drop]
theorem Opens.struct {α : Type} {d : Kd α} {Ok : α → Prop} {fs : Array Field} (ts : List TypeId) (ns : List Nat) (ht : P.underlying t = some (.struct fs)) (hts : fs.toList.map (·.type) = ts) (hns : ts.map P.cellsOf = ns) (hof : fs.toList.map (·.offset) = (List.range ns.length).map fun j => (ns.take j).sum) (hC : P.cellsOf t = ns.sum) (h : OpensL P ts d Ok) : Opens P t d Ok := by
 intro H enc w base spare held fuel cs x hx
 obtain ⟨xs, n, _, _, hl, hxs, hf⟩ := DataW.trod_struct ht hx
 have hlen : ts.length = fs.size := by rw [← hts]; simp
 have hlen2 : ns.length = ts.length := by rw [← hns]; simp
 obtain ⟨a, h1, h2⟩ := h enc w base spare held n (cuts cs ns) (by rw [cuts_len, hlen2]) (fun j t' cs' hj hj' => by
  have hjt : j < ts.length := (List.getElem?_eq_some_iff.1 hj).1
  have hjf : fs[j]? = some (fs[j]'(by omega)) := Array.getElem?_eq_getElem (by omega)
  have e1 : (fs[j]'(by omega)).type = t' := by
   have : (fs.toList.map (·.type))[j]? = some t' := by rw [hts]; exact hj
   simpa [List.getElem?_map, hjf] using this
  have e2 : ns[j]? = some (P.cellsOf t') := by rw [← hns, List.getElem?_map, hj]; rfl
  have e3 : (fs[j]'(by omega)).offset = (ns.take j).sum := by
   have : (fs.toList.map (·.offset))[j]? = ((List.range ns.length).map fun j => (ns.take j).sum)[j]? := by rw [hof]
   simpa [List.getElem?_map, hjf, show j < ns.length by omega] using this
  have h3 := hf j _ hjf
  rw [e1, e3] at h3
  rw [cuts_get cs ns j _ e2] at hj'
  injection hj' with hj'
  rw [hj'] at h3
  exact ⟨xs[j]'(by omega), by rw [h3]; exact List.getElem?_eq_getElem (by omega)⟩)
 rw [cuts_flat cs ns (by rw [hl, hC])] at h1
 exact ⟨a, h1, h2⟩
end
end Go.Proofs.Ytjccgdnnnlgeeaa.XOpen
end

section
-- PRINTED BY print.sh 35421559b90ae4d0a3588c463048766b98c2df88dd9212a6774a882060cdf62d: not written by this session
-- PRINTED WORDS (module Derived/Print/Sized.lean): go-gate-2's, for the rows of laws over slices: an AI agent of Go's test side, Tue Nov 17 2026; no person has read it. Lean checks it.
namespace Go.Proofs.YtjccgdnnnlgeeaaW.PrintWords
open Go.ChangeShapes Go.WideShapes
end Go.Proofs.YtjccgdnnnlgeeaaW.PrintWords
end
