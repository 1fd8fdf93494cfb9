/- law of LinkTells: the row, by its walk. -/
import Derived.Test.YtmigglldahkngaaBLinkTells4
section
/- law18's LinkTells, walked: whether any link may be, is quiet, what is pushed into it, asked of it, and how a new one is. -/
namespace Go.Proofs.Ytmigglldahkngaa.XHand
open Go.RowKit Go.Proofs.YtmigglldahkngaaW.PrintWords Go.Proofs.YtmigglldahkngaaW.PrintLast Go.Proofs.YtmigglldahkngaaW.PrintMore Go.Proofs.Ytmigglldahkngaa.PA Go.Proofs.Ytmigglldahkngaa.XMem Go.Proofs.Ytmigglldahkngaa.XSt Go.Proofs.Ytmigglldahkngaa.XKn Go.Proofs.Ytmigglldahkngaa.XQuiet Go.Proofs.Ytmigglldahkngaa.XTell
open Go.Proofs.Ytmigglldahkngaa.XSum (kSe Se)
open Go.Proofs.Ytmigglldahkngaa.XV17 (mayT mayK pushK newK newK_b refNewK_b quiet_b refQuiet_b linkMayK refMayK same18 few18_f changes_f pushK_len)
set_option linter.unusedVariables false
set_option linter.unusedSimpArgs false
set_option maxRecDepth 100000
theorem refPush_n {ok : Nat → Prop} {c0 c1 c2 c3 s : Int} {A : Option Addr} {cc : Nat} {q : List Ch} {lat : Bool} {tok at_ : Int} {sn : Bool} {dg : Int} (n n' : Nat) (x : Ch) (y0 : ByteArray) (y1 : Bool) (y2 y3 y4 : Int) (y5 : ByteArray) {r0 : Int} {r1 : List Ch} {r2 : Bool} {r3 r4 : Int} {r5 : Bool} {r6 : Int} {w : World}
  (h : pushK c0 s q lat tok at_ sn dg x = (r0, r1, r2, r3, r4, r5, r6)) (g : (V kCh (.slice A n cc) q).P w ok) (hx : x = ⟨y0, y1, ⟨y2, y3, y4, y5⟩⟩) (hn : q.length = n) (hn' : r1.length = n') (hq : q.length ≤ 1000) :
  Calls Try.prog 20 #[.agg #[.int .i64 c0, .int .i64 c1, .int .i64 c2, .int .i64 c3], .agg #[.int .i64 s, .slice A n cc, .bool lat, .int .i64 tok, .int .i64 at_, .bool sn, .int .i64 dg], .agg #[.string y0, .bool y1, .int .i64 y2, .int .i64 y3, .int .i64 y4, .string y5]] w
   fun e w' => ∃ (A' : Option Addr) (c' : Nat), e = .returned (.agg #[.int .i64 r0, .slice A' n' c', .bool r2, .int .i64 r3, .int .i64 r4, .bool r5, .int .i64 r6]) ∧ (V kCh (.slice A' n' c') r1).P w' (fun k => ok k ∨ w.heap.size ≤ k) ∧ Below w.heap.size w w' := by
 subst hn
 subst hn'
 subst hx
 exact refPush_kn (⟨y0, y1, ⟨y2, y3, y4, y5⟩⟩ : Ch) hq h g
theorem newK_nil (c0 c1 c2 c3 n : Int) : (newK c0 c1 c2 c3 n).2.1 = [] := by
 unfold newK
 split <;> rfl
set_option maxHeartbeats 8000000 in
theorem linkTells_go (ok : Nat → Prop) (c0 c1 c2 c3 : Int) (s : Int) (A : Option Addr) (cc : Nat) (q : List Ch) (lat : Bool) (tok at_ : Int) (sn : Bool) (dg : Int) (x0 : ByteArray) (x1 : Bool) (x2 x3 x4 : Int) (x5 : ByteArray) (w0 w : World) (S : Kn ok w0 [] nil tt [V kCh (.slice A q.length cc) q] w) (hqs : ∀ x ∈ q, x.f0.size ≤ 9223372036854775807) :
  Calls Try.prog 3 #[.agg #[.int .i64 c0, .int .i64 c1, .int .i64 c2, .int .i64 c3], .agg #[.int .i64 s, .slice A q.length cc, .bool lat, .int .i64 tok, .int .i64 at_, .bool sn, .int .i64 dg], .agg #[.string x0, .bool x1, .int .i64 x2, .int .i64 x3, .int .i64 x4, .string x5]] w fun e w' => e = .returned (.bool true) ∧ Below w0.heap.size w0 w' := by
 obtain ⟨b0, hb0, hl0⟩ := few18_f 60 s q lat tok at_ sn dg (by omega)
 obtain ⟨b1, hb1, _⟩ := changes_f 60 [(⟨x0, x1, ⟨x2, x3, x4, x5⟩⟩ : Ch)] 1 (by omega) (by omega)
 have F0 := Aside0.mk hb0
 have F1 := Aside0.mk hb1
 have H0 := Aside0.mk hl0
 have HQ := Aside0.mk hqs
 clear hb0 hb1 hl0 hqs
 go_enter Try.func3, Try.ntmps3
 go_upto_region 1 with (fail)
 generalize hg : World.alloc _ _ = w1
 replace S := S.new3 hg
 clear hg
 generalize w.heap.size + 2 = p5 at S ⊢
 generalize w.heap.size + 1 = p4 at S ⊢
 generalize w.heap.size = p3 at S ⊢
 replace S : Kn ok w0 [(p5, .cells #[.string x0, .bool x1, .int .i64 x2, .int .i64 x3, .int .i64 x4, .string x5] TCh (0, 0)), (p4, .cells #[.int .i64 s, .slice A q.length cc, .bool lat, .int .i64 tok, .int .i64 at_, .bool sn, .int .i64 dg] TLk (0, 0)), (p3, .cells #[.int .i64 c0, .int .i64 c1, .int .i64 c2, .int .i64 c3] TCf (0, 0))] nil tt [V kCh (.slice A q.length cc) q] w1 := S
 have l_0 : w1.cell? ⟨p4, 0, none⟩ = some (.int .i64 s) := S.cell 1 0 rfl rfl
 have l_1 : w1.cell? ⟨p4, 1, none⟩ = some (.slice A q.length cc) := S.cell 1 1 rfl rfl
 have l_2 : w1.cell? ⟨p4, 2, none⟩ = some (.bool lat) := S.cell 1 2 rfl rfl
 have l_3 : w1.cell? ⟨p4, 3, none⟩ = some (.int .i64 tok) := S.cell 1 3 rfl rfl
 have l_4 : w1.cell? ⟨p4, 4, none⟩ = some (.int .i64 at_) := S.cell 1 4 rfl rfl
 have l_5 : w1.cell? ⟨p4, 5, none⟩ = some (.bool sn) := S.cell 1 5 rfl rfl
 have l_6 : w1.cell? ⟨p4, 6, none⟩ = some (.int .i64 dg) := S.cell 1 6 rfl rfl
 go_wp2_with fail
 refine (rollcallref18_Few.kn 60 F0.out (S.ft 0 rfl)).mono ?_
 rintro e w2 ⟨rfl, hb⟩
 replace S := S.below hb
 clear l_0 l_1 l_2 l_3 l_4 l_5 l_6 hb
 cases b0 with
 | false =>
  go_wp2_with fail
  refine (live_walk w2).mono ?_
  rintro e wl ⟨rfl, bl⟩
  go_wp2
  go_ret
  exact ⟨rfl, below_step S.bel bl⟩
 | true =>
  have hq := H0.out rfl
  clear F0 H0
  have x_0 : w2.cell? ⟨p5, 0, none⟩ = some (.string x0) := S.cell 0 0 rfl rfl
  have x_1 : w2.cell? ⟨p5, 1, none⟩ = some (.bool x1) := S.cell 0 1 rfl rfl
  have x_2 : w2.cell? ⟨p5, 2, none⟩ = some (.int .i64 x2) := S.cell 0 2 rfl rfl
  have x_3 : w2.cell? ⟨p5, 3, none⟩ = some (.int .i64 x3) := S.cell 0 3 rfl rfl
  have x_4 : w2.cell? ⟨p5, 4, none⟩ = some (.int .i64 x4) := S.cell 0 4 rfl rfl
  have x_5 : w2.cell? ⟨p5, 5, none⟩ = some (.string x5) := S.cell 0 5 rfl rfl
  go_wp2_with fail
  generalize hg : World.alloc _ _ = w3
  have hz : (V kCh (.slice (some ⟨w2.heap.size, 0, none⟩) 1 1) [(⟨x0, x1, ⟨x2, x3, x4, x5⟩⟩ : Ch)]).P w3 (fun _ => True) := by
   have := Im.lit kCh hg (xs := [(⟨x0, x1, ⟨x2, x3, x4, x5⟩⟩ : Ch)]) (Reps.c6 (k34_mkM _ _ _ (⟨x0, x1, ⟨x2, x3, x4, x5⟩⟩ : Ch)) (Reps.none _ _)) (by simp)
   exact this
  replace S := S.new hg
  clear hg
  generalize w2.heap.size = p16 at S hz ⊢
  clear x_0 x_1 x_2 x_3 x_4 x_5
  replace S : Kn ok w0 [(p16, .cells #[.string x0, .bool x1, .int .i64 x2, .int .i64 x3, .int .i64 x4, .string x5] TCh (0, 0)), (p5, .cells #[.string x0, .bool x1, .int .i64 x2, .int .i64 x3, .int .i64 x4, .string x5] TCh (0, 0)), (p4, .cells #[.int .i64 s, .slice A q.length cc, .bool lat, .int .i64 tok, .int .i64 at_, .bool sn, .int .i64 dg] TLk (0, 0)), (p3, .cells #[.int .i64 c0, .int .i64 c1, .int .i64 c2, .int .i64 c3] TCf (0, 0))] nil tt [V kCh (.slice A q.length cc) q] w3 := S
  refine (rollcallref17_Changes.kn 60 F1.out hz).mono ?_
  rintro e w4 ⟨rfl, hb⟩
  replace S := S.below hb
  clear hb hz F1
  cases b1 with
  | false =>
   go_wp2_with fail
   refine (live_walk w4).mono ?_
   rintro e wl ⟨rfl, bl⟩
   go_wp2
   go_ret
   exact ⟨rfl, below_step S.bel bl⟩
  | true =>
   replace S := S.pop 1
   replace S : Kn ok w0 [(p5, .cells #[.string x0, .bool x1, .int .i64 x2, .int .i64 x3, .int .i64 x4, .string x5] TCh (0, 0)), (p4, .cells #[.int .i64 s, .slice A q.length cc, .bool lat, .int .i64 tok, .int .i64 at_, .bool sn, .int .i64 dg] TLk (0, 0)), (p3, .cells #[.int .i64 c0, .int .i64 c1, .int .i64 c2, .int .i64 c3] TCf (0, 0))] nil tt [V kCh (.slice A q.length cc) q] w4 := S
   have hnn := newK_nil c0 c1 c2 c3 dg
   rcases hn : newK c0 c1 c2 c3 dg with ⟨n0, n1, n2, n3, n4, n5, n6, n7⟩
   rw [hn] at hnn
   obtain rfl : n1 = [] := hnn
   have FN := Aside0.mk ((newK_b c0 c1 c2 c3 dg).trans (congrArg some hn))
   have FRN := Aside0.mk ((refNewK_b c0 c1 c2 c3 dg).trans (congrArg some hn))
   rcases hpk : pushK c0 s q lat tok at_ sn dg (⟨x0, x1, ⟨x2, x3, x4, x5⟩⟩ : Ch) with ⟨r0, r1, r2, r3, r4, r5, r6⟩
   have hpl := pushK_len c0 s q lat tok at_ sn dg (⟨x0, x1, ⟨x2, x3, x4, x5⟩⟩ : Ch)
   rw [hpk] at hpl
   have hpl' : r1.length ≤ q.length + 1 := hpl
   have FSa := Aside0.mk (same18 1100 n0 [] n2 n3 n4 n5 n6 (Nat.zero_le _) (by omega))
   have FSb := Aside0.mk (same18 1100 r0 r1 r2 r3 r4 r5 r6 (by omega) (by omega))
   have FSc := Aside0.mk (same18 1100 s [] false tok at_ true dg (Nat.zero_le _) (by omega))
   have FM := Aside0.mk (linkMayK 200 c0 c1 c2 c3 s q lat tok at_ sn dg (by omega) HQ.out (by omega))
   have FRM := Aside0.mk (refMayK 200 c0 c1 c2 c3 s q lat tok at_ sn dg (by omega) (by omega))
   generalize mayK c0 c1 c2 c3 s q lat tok at_ sn dg = b5 at FM FRM
   have FQ := Aside0.mk (quiet_b s q lat tok at_ sn dg)
   have FRQ := Aside0.mk (refQuiet_b s q lat tok at_ sn dg)
   generalize (!sn && (decide (q.length = 0) && !lat)) = b6 at FQ FRQ
   have FP := Aside0.mk hpk
   have HQ1 := Aside0.mk (show q.length ≤ 1000 by omega)
   clear hn hpk hpl hpl' hq HQ
   have c_0 : w4.cell? ⟨p3, 0, none⟩ = some (.int .i64 c0) := S.cell 2 0 rfl rfl
   have c_1 : w4.cell? ⟨p3, 1, none⟩ = some (.int .i64 c1) := S.cell 2 1 rfl rfl
   have c_2 : w4.cell? ⟨p3, 2, none⟩ = some (.int .i64 c2) := S.cell 2 2 rfl rfl
   have c_3 : w4.cell? ⟨p3, 3, none⟩ = some (.int .i64 c3) := S.cell 2 3 rfl rfl
   have l_0 : w4.cell? ⟨p4, 0, none⟩ = some (.int .i64 s) := S.cell 1 0 rfl rfl
   have l_1 : w4.cell? ⟨p4, 1, none⟩ = some (.slice A q.length cc) := S.cell 1 1 rfl rfl
   have l_2 : w4.cell? ⟨p4, 2, none⟩ = some (.bool lat) := S.cell 1 2 rfl rfl
   have l_3 : w4.cell? ⟨p4, 3, none⟩ = some (.int .i64 tok) := S.cell 1 3 rfl rfl
   have l_4 : w4.cell? ⟨p4, 4, none⟩ = some (.int .i64 at_) := S.cell 1 4 rfl rfl
   have l_5 : w4.cell? ⟨p4, 5, none⟩ = some (.bool sn) := S.cell 1 5 rfl rfl
   have l_6 : w4.cell? ⟨p4, 6, none⟩ = some (.int .i64 dg) := S.cell 1 6 rfl rfl
   go_wp2_with fail
   refine (link_New.kn FN.out).mono ?_
   rintro e w5 ⟨A7, e7, rfl, hV, hb⟩
   replace S := S.below hb
   have hna := Ft.all hV
   clear hV
   clear c_0 c_1 c_2 c_3 l_0 l_1 l_2 l_3 l_4 l_5 l_6 hb
   go_upto_region 4 with (fail)
   generalize hg : World.alloc _ _ = w6
   replace S := S.new hg
   have hbx : Below w5.heap.size w5 w6 := hg ▸ (by repeat (first | exact Below.refl _ _ | apply below_alloc))
   replace hna := Ft.below hna hbx
   clear hbx
   clear hg
   generalize w5.heap.size = p7 at S ⊢
   replace S : Kn ok w0 [(p7, .cells #[.int .i64 n0, .slice A7 0 e7, .bool n2, .int .i64 n3, .int .i64 n4, .bool n5, .int .i64 n6] TLk (0, 0)), (p5, .cells #[.string x0, .bool x1, .int .i64 x2, .int .i64 x3, .int .i64 x4, .string x5] TCh (0, 0)), (p4, .cells #[.int .i64 s, .slice A q.length cc, .bool lat, .int .i64 tok, .int .i64 at_, .bool sn, .int .i64 dg] TLk (0, 0)), (p3, .cells #[.int .i64 c0, .int .i64 c1, .int .i64 c2, .int .i64 c3] TCf (0, 0))] nil tt [V kCh (.slice A q.length cc) q] w6 := S
   have c_0 : w6.cell? ⟨p3, 0, none⟩ = some (.int .i64 c0) := S.cell 3 0 rfl rfl
   have c_1 : w6.cell? ⟨p3, 1, none⟩ = some (.int .i64 c1) := S.cell 3 1 rfl rfl
   have c_2 : w6.cell? ⟨p3, 2, none⟩ = some (.int .i64 c2) := S.cell 3 2 rfl rfl
   have c_3 : w6.cell? ⟨p3, 3, none⟩ = some (.int .i64 c3) := S.cell 3 3 rfl rfl
   have l_0 : w6.cell? ⟨p4, 0, none⟩ = some (.int .i64 s) := S.cell 2 0 rfl rfl
   have l_1 : w6.cell? ⟨p4, 1, none⟩ = some (.slice A q.length cc) := S.cell 2 1 rfl rfl
   have l_2 : w6.cell? ⟨p4, 2, none⟩ = some (.bool lat) := S.cell 2 2 rfl rfl
   have l_3 : w6.cell? ⟨p4, 3, none⟩ = some (.int .i64 tok) := S.cell 2 3 rfl rfl
   have l_4 : w6.cell? ⟨p4, 4, none⟩ = some (.int .i64 at_) := S.cell 2 4 rfl rfl
   have l_5 : w6.cell? ⟨p4, 5, none⟩ = some (.bool sn) := S.cell 2 5 rfl rfl
   have l_6 : w6.cell? ⟨p4, 6, none⟩ = some (.int .i64 dg) := S.cell 2 6 rfl rfl
   go_wp2_with fail
   refine (rollcallref18_New.kn FRN.out).mono ?_
   rintro e w7 ⟨A9, e9, rfl, hV, hb⟩
   replace S := S.below hb
   replace hna := Ft.below hna hb
   have hnb := Ft.all hV
   clear hV
   clear c_0 c_1 c_2 c_3 l_0 l_1 l_2 l_3 l_4 l_5 l_6 hb
   go_upto_region 5 with (fail)
   generalize hg : World.alloc _ _ = w8
   replace S := S.new hg
   have hbx : Below w7.heap.size w7 w8 := hg ▸ (by repeat (first | exact Below.refl _ _ | apply below_alloc))
   replace hna := Ft.below hna hbx
   replace hnb := Ft.below hnb hbx
   clear hbx
   clear hg
   generalize w7.heap.size = p9 at S ⊢
   replace S : Kn ok w0 [(p9, .cells #[.int .i64 n0, .slice A9 0 e9, .bool n2, .int .i64 n3, .int .i64 n4, .bool n5, .int .i64 n6] TLk (0, 0)), (p7, .cells #[.int .i64 n0, .slice A7 0 e7, .bool n2, .int .i64 n3, .int .i64 n4, .bool n5, .int .i64 n6] TLk (0, 0)), (p5, .cells #[.string x0, .bool x1, .int .i64 x2, .int .i64 x3, .int .i64 x4, .string x5] TCh (0, 0)), (p4, .cells #[.int .i64 s, .slice A q.length cc, .bool lat, .int .i64 tok, .int .i64 at_, .bool sn, .int .i64 dg] TLk (0, 0)), (p3, .cells #[.int .i64 c0, .int .i64 c1, .int .i64 c2, .int .i64 c3] TCf (0, 0))] nil tt [V kCh (.slice A q.length cc) q] w8 := S
   have hqv := Ft.all (S.ft 0 rfl)
   replace hna : (V kCh (.slice A7 0 e7) []).P w8 (fun _ => True) := hna
   replace hnb : (V kCh (.slice A9 0 e9) []).P w8 (fun _ => True) := hnb
   have KSa : ∀ (w : World), (V kCh (.slice A7 0 e7) []).P w (fun _ => True) → (V kCh (.slice A9 0 e9) []).P w (fun _ => True) → Calls Try.prog 14 #[.agg #[.int .i64 n0, .slice A7 0 e7, .bool n2, .int .i64 n3, .int .i64 n4, .bool n5, .int .i64 n6], .agg #[.int .i64 n0, .slice A9 0 e9, .bool n2, .int .i64 n3, .int .i64 n4, .bool n5, .int .i64 n6]] w fun e w' => e = .returned (.bool true) ∧ Below w.heap.size w w' := fun w g1 g2 => by have h := rollcallref18_Same.kn (l0_1 := []) (l1_1 := []) 1100 FSa.out g1 g2; exact h
   have KA : ∀ (w : World), (V kCh (.slice A q.length cc) q).P w (fun _ => True) → Calls Try.prog 21 #[.agg #[.int .i64 s, .slice A q.length cc, .bool lat, .int .i64 tok, .int .i64 at_, .bool sn, .int .i64 dg]] w fun e w' => ∃ (A' : Option Addr) (c' : Nat), e = .returned (.agg #[.int .i64 s, .slice A' 0 c', .bool false, .int .i64 tok, .int .i64 at_, .bool true, .int .i64 dg]) ∧ (V kCh (.slice A' 0 c') []).P w' (fun k => w.heap.size ≤ k) ∧ Below w.heap.size w w' := fun w g => by have h := link_Ask.kn (r1 := s) (r2 := []) (r3 := false) (r4 := tok) (r5 := at_) (r6 := true) (r7 := dg) (show link_Ask.f s q lat tok at_ sn dg = some (s, [], false, tok, at_, true, dg) from rfl) g; exact h
   have KRA : ∀ (w : World), (V kCh (.slice A q.length cc) q).P w (fun _ => True) → Calls Try.prog 22 #[.agg #[.int .i64 s, .slice A q.length cc, .bool lat, .int .i64 tok, .int .i64 at_, .bool sn, .int .i64 dg]] w fun e w' => ∃ (A' : Option Addr) (c' : Nat), e = .returned (.agg #[.int .i64 s, .slice A' 0 c', .bool false, .int .i64 tok, .int .i64 at_, .bool true, .int .i64 dg]) ∧ (V kCh (.slice A' 0 c') []).P w' (fun k => w.heap.size ≤ k) ∧ Below w.heap.size w w' := fun w g => by have h := rollcallref18_Ask.kn (r1 := s) (r2 := []) (r3 := false) (r4 := tok) (r5 := at_) (r6 := true) (r7 := dg) (show rollcallref18_Ask.f s q lat tok at_ sn dg = some (s, [], false, tok, at_, true, dg) from rfl) g; exact h
   have KSc : ∀ (A1 : Option Addr) (e1 : Nat) (A2 : Option Addr) (e2 : Nat) (w : World), (V kCh (.slice A1 0 e1) []).P w (fun _ => True) → (V kCh (.slice A2 0 e2) []).P w (fun _ => True) → Calls Try.prog 14 #[.agg #[.int .i64 s, .slice A1 0 e1, .bool false, .int .i64 tok, .int .i64 at_, .bool true, .int .i64 dg], .agg #[.int .i64 s, .slice A2 0 e2, .bool false, .int .i64 tok, .int .i64 at_, .bool true, .int .i64 dg]] w fun e w' => e = .returned (.bool true) ∧ Below w.heap.size w w' := fun A1 e1 A2 e2 w g1 g2 => by have h := rollcallref18_Same.kn (l0_1 := []) (l1_1 := []) 1100 FSc.out g1 g2; exact h
   have HK := Aside0.mk (And.intro KSa (And.intro KA (And.intro KRA KSc)))
   clear KSa KA KRA KSc
   have SS : ∀ w' : World, Below w8.heap.size w8 w' → w'.cell? ⟨p3, 0, none⟩ = some (.int .i64 c0) ∧ w'.cell? ⟨p3, 1, none⟩ = some (.int .i64 c1) ∧ w'.cell? ⟨p3, 2, none⟩ = some (.int .i64 c2) ∧ w'.cell? ⟨p3, 3, none⟩ = some (.int .i64 c3) ∧ w'.cell? ⟨p4, 0, none⟩ = some (.int .i64 s) ∧ w'.cell? ⟨p4, 1, none⟩ = some (.slice A q.length cc) ∧ w'.cell? ⟨p4, 2, none⟩ = some (.bool lat) ∧ w'.cell? ⟨p4, 3, none⟩ = some (.int .i64 tok) ∧ w'.cell? ⟨p4, 4, none⟩ = some (.int .i64 at_) ∧ w'.cell? ⟨p4, 5, none⟩ = some (.bool sn) ∧ w'.cell? ⟨p4, 6, none⟩ = some (.int .i64 dg) ∧ w'.cell? ⟨p5, 0, none⟩ = some (.string x0) ∧ w'.cell? ⟨p5, 1, none⟩ = some (.bool x1) ∧ w'.cell? ⟨p5, 2, none⟩ = some (.int .i64 x2) ∧ w'.cell? ⟨p5, 3, none⟩ = some (.int .i64 x3) ∧ w'.cell? ⟨p5, 4, none⟩ = some (.int .i64 x4) ∧ w'.cell? ⟨p5, 5, none⟩ = some (.string x5) ∧ w'.cell? ⟨p7, 0, none⟩ = some (.int .i64 n0) ∧ w'.cell? ⟨p7, 1, none⟩ = some (.slice A7 0 e7) ∧ w'.cell? ⟨p7, 2, none⟩ = some (.bool n2) ∧ w'.cell? ⟨p7, 3, none⟩ = some (.int .i64 n3) ∧ w'.cell? ⟨p7, 4, none⟩ = some (.int .i64 n4) ∧ w'.cell? ⟨p7, 5, none⟩ = some (.bool n5) ∧ w'.cell? ⟨p7, 6, none⟩ = some (.int .i64 n6) ∧ w'.cell? ⟨p9, 0, none⟩ = some (.int .i64 n0) ∧ w'.cell? ⟨p9, 1, none⟩ = some (.slice A9 0 e9) ∧ w'.cell? ⟨p9, 2, none⟩ = some (.bool n2) ∧ w'.cell? ⟨p9, 3, none⟩ = some (.int .i64 n3) ∧ w'.cell? ⟨p9, 4, none⟩ = some (.int .i64 n4) ∧ w'.cell? ⟨p9, 5, none⟩ = some (.bool n5) ∧ w'.cell? ⟨p9, 6, none⟩ = some (.int .i64 n6) := fun w' hb => by
    have S := S.below hb
    exact ⟨S.cell 4 0 rfl rfl, S.cell 4 1 rfl rfl, S.cell 4 2 rfl rfl, S.cell 4 3 rfl rfl, S.cell 3 0 rfl rfl, S.cell 3 1 rfl rfl, S.cell 3 2 rfl rfl, S.cell 3 3 rfl rfl, S.cell 3 4 rfl rfl, S.cell 3 5 rfl rfl, S.cell 3 6 rfl rfl, S.cell 2 0 rfl rfl, S.cell 2 1 rfl rfl, S.cell 2 2 rfl rfl, S.cell 2 3 rfl rfl, S.cell 2 4 rfl rfl, S.cell 2 5 rfl rfl, S.cell 1 0 rfl rfl, S.cell 1 1 rfl rfl, S.cell 1 2 rfl rfl, S.cell 1 3 rfl rfl, S.cell 1 4 rfl rfl, S.cell 1 5 rfl rfl, S.cell 1 6 rfl rfl, S.cell 0 0 rfl rfl, S.cell 0 1 rfl rfl, S.cell 0 2 rfl rfl, S.cell 0 3 rfl rfl, S.cell 0 4 rfl rfl, S.cell 0 5 rfl rfl, S.cell 0 6 rfl rfl⟩
   have HS := Aside0.mk S
   clear S
   go_wp2_with fail
   go_region_held3 (fun w' => w'.cell? ⟨p3, 0, none⟩ = some (.int .i64 c0) ∧ w'.cell? ⟨p3, 1, none⟩ = some (.int .i64 c1) ∧ w'.cell? ⟨p3, 2, none⟩ = some (.int .i64 c2) ∧ w'.cell? ⟨p3, 3, none⟩ = some (.int .i64 c3) ∧ w'.cell? ⟨p4, 0, none⟩ = some (.int .i64 s) ∧ w'.cell? ⟨p4, 1, none⟩ = some (.slice A q.length cc) ∧ w'.cell? ⟨p4, 2, none⟩ = some (.bool lat) ∧ w'.cell? ⟨p4, 3, none⟩ = some (.int .i64 tok) ∧ w'.cell? ⟨p4, 4, none⟩ = some (.int .i64 at_) ∧ w'.cell? ⟨p4, 5, none⟩ = some (.bool sn) ∧ w'.cell? ⟨p4, 6, none⟩ = some (.int .i64 dg) ∧ w'.cell? ⟨p5, 0, none⟩ = some (.string x0) ∧ w'.cell? ⟨p5, 1, none⟩ = some (.bool x1) ∧ w'.cell? ⟨p5, 2, none⟩ = some (.int .i64 x2) ∧ w'.cell? ⟨p5, 3, none⟩ = some (.int .i64 x3) ∧ w'.cell? ⟨p5, 4, none⟩ = some (.int .i64 x4) ∧ w'.cell? ⟨p5, 5, none⟩ = some (.string x5) ∧ w'.cell? ⟨p7, 0, none⟩ = some (.int .i64 n0) ∧ w'.cell? ⟨p7, 1, none⟩ = some (.slice A7 0 e7) ∧ w'.cell? ⟨p7, 2, none⟩ = some (.bool n2) ∧ w'.cell? ⟨p7, 3, none⟩ = some (.int .i64 n3) ∧ w'.cell? ⟨p7, 4, none⟩ = some (.int .i64 n4) ∧ w'.cell? ⟨p7, 5, none⟩ = some (.bool n5) ∧ w'.cell? ⟨p7, 6, none⟩ = some (.int .i64 n6) ∧ w'.cell? ⟨p9, 0, none⟩ = some (.int .i64 n0) ∧ w'.cell? ⟨p9, 1, none⟩ = some (.slice A9 0 e9) ∧ w'.cell? ⟨p9, 2, none⟩ = some (.bool n2) ∧ w'.cell? ⟨p9, 3, none⟩ = some (.int .i64 n3) ∧ w'.cell? ⟨p9, 4, none⟩ = some (.int .i64 n4) ∧ w'.cell? ⟨p9, 5, none⟩ = some (.bool n5) ∧ w'.cell? ⟨p9, 6, none⟩ = some (.int .i64 n6)) (exact SS _ (by with_reducible repeat (first | assumption | apply below_alloc | apply below_drew1 | exact Below.refl _ _))) (first | (go_at_call 14; (with_reducible refine (HK.out.2.2.2 _ _ _ _ _ ha1 ha2).mono ?_); rintro e zw11 ⟨rfl, hb⟩; have hb11 := below_step (show Below w8.heap.size w8 _ from (by with_reducible repeat (first | assumption | apply below_alloc | apply below_drew1 | exact Below.refl _ _))) hb; (try replace hp1 := Ft.below hp1 hb); (try replace hp2 := Ft.below hp2 hb); (try replace ha1 := Ft.below ha1 hb); (try replace ha2 := Ft.below ha2 hb); clear hb) | (go_at_call 14; (with_reducible refine (rollcallref18_Same.kn 1100 FSb.out hp1 hp2).mono ?_); rintro e zw8 ⟨rfl, hb⟩; have hb8 := below_step (show Below w8.heap.size w8 _ from (by with_reducible repeat (first | assumption | apply below_alloc | apply below_drew1 | exact Below.refl _ _))) hb; (try replace hp1 := Ft.below hp1 hb); (try replace hp2 := Ft.below hp2 hb); (try replace ha1 := Ft.below ha1 hb); (try replace ha2 := Ft.below ha2 hb); clear hb) | (go_at_call 14; (with_reducible refine (HK.out.1 _ (Ft.below hna (by with_reducible repeat (first | assumption | apply below_alloc | apply below_drew1 | exact Below.refl _ _))) (Ft.below hnb (by with_reducible repeat (first | assumption | apply below_alloc | apply below_drew1 | exact Below.refl _ _)))).mono ?_); rintro e zw1 ⟨rfl, hb⟩; have hb1 := below_step (show Below w8.heap.size w8 _ from (by with_reducible repeat (first | assumption | apply below_alloc | apply below_drew1 | exact Below.refl _ _))) hb; (try replace hp1 := Ft.below hp1 hb); (try replace hp2 := Ft.below hp2 hb); (try replace ha1 := Ft.below ha1 hb); (try replace ha2 := Ft.below ha2 hb); clear hb) | (go_at_call 15; (with_reducible refine (link_May.kn 200 FM.out (Ft.below hqv (by with_reducible repeat (first | assumption | apply below_alloc | apply below_drew1 | exact Below.refl _ _)))).mono ?_); rintro e zw2 ⟨rfl, hb⟩; have hb2 := below_step (show Below w8.heap.size w8 _ from (by with_reducible repeat (first | assumption | apply below_alloc | apply below_drew1 | exact Below.refl _ _))) hb; (try replace hp1 := Ft.below hp1 hb); (try replace hp2 := Ft.below hp2 hb); (try replace ha1 := Ft.below ha1 hb); (try replace ha2 := Ft.below ha2 hb); clear hb) | (go_at_call 16; (with_reducible refine (rollcallref18_May.kn 200 FRM.out (Ft.below hqv (by with_reducible repeat (first | assumption | apply below_alloc | apply below_drew1 | exact Below.refl _ _)))).mono ?_); rintro e zw3 ⟨rfl, hb⟩; have hb3 := below_step (show Below w8.heap.size w8 _ from (by with_reducible repeat (first | assumption | apply below_alloc | apply below_drew1 | exact Below.refl _ _))) hb; (try replace hp1 := Ft.below hp1 hb); (try replace hp2 := Ft.below hp2 hb); (try replace ha1 := Ft.below ha1 hb); (try replace ha2 := Ft.below ha2 hb); clear hb) | (go_at_call 17; (with_reducible refine (link_Quiet.kn FQ.out (Ft.below hqv (by with_reducible repeat (first | assumption | apply below_alloc | apply below_drew1 | exact Below.refl _ _)))).mono ?_); rintro e zw4 ⟨rfl, hb⟩; have hb4 := below_step (show Below w8.heap.size w8 _ from (by with_reducible repeat (first | assumption | apply below_alloc | apply below_drew1 | exact Below.refl _ _))) hb; (try replace hp1 := Ft.below hp1 hb); (try replace hp2 := Ft.below hp2 hb); (try replace ha1 := Ft.below ha1 hb); (try replace ha2 := Ft.below ha2 hb); clear hb) | (go_at_call 18; (with_reducible refine (rollcallref18_Quiet.kn FRQ.out (Ft.below hqv (by with_reducible repeat (first | assumption | apply below_alloc | apply below_drew1 | exact Below.refl _ _)))).mono ?_); rintro e zw5 ⟨rfl, hb⟩; have hb5 := below_step (show Below w8.heap.size w8 _ from (by with_reducible repeat (first | assumption | apply below_alloc | apply below_drew1 | exact Below.refl _ _))) hb; (try replace hp1 := Ft.below hp1 hb); (try replace hp2 := Ft.below hp2 hb); (try replace ha1 := Ft.below ha1 hb); (try replace ha2 := Ft.below ha2 hb); clear hb) | (go_at_call 19; (with_reducible refine (push_n (ok := fun _ => True) q.length r1.length (⟨x0, x1, ⟨x2, x3, x4, x5⟩⟩ : Ch) x0 x1 x2 x3 x4 x5 FP.out (Ft.below hqv (by with_reducible repeat (first | assumption | apply below_alloc | apply below_drew1 | exact Below.refl _ _))) rfl rfl rfl HQ1.out).mono ?_); rintro e zw6 ⟨A61, d61, rfl, hp1_, hb⟩; have hp1 := Ft.all hp1_; clear hp1_; have hb6 := below_step (show Below w8.heap.size w8 _ from (by with_reducible repeat (first | assumption | apply below_alloc | apply below_drew1 | exact Below.refl _ _))) hb; (try replace hp1 := Ft.below hp1 hb); (try replace hp2 := Ft.below hp2 hb); (try replace ha1 := Ft.below ha1 hb); (try replace ha2 := Ft.below ha2 hb); clear hb) | (go_at_call 20; (with_reducible refine (refPush_n (ok := fun _ => True) q.length r1.length (⟨x0, x1, ⟨x2, x3, x4, x5⟩⟩ : Ch) x0 x1 x2 x3 x4 x5 FP.out (Ft.below hqv (by with_reducible repeat (first | assumption | apply below_alloc | apply below_drew1 | exact Below.refl _ _))) rfl rfl rfl HQ1.out).mono ?_); rintro e zw7 ⟨A71, d71, rfl, hp2_, hb⟩; have hp2 := Ft.all hp2_; clear hp2_; (try replace hp1 := Ft.below hp1 hb); have hb7 := below_step (show Below w8.heap.size w8 _ from (by with_reducible repeat (first | assumption | apply below_alloc | apply below_drew1 | exact Below.refl _ _))) hb; (try replace hp1 := Ft.below hp1 hb); (try replace hp2 := Ft.below hp2 hb); (try replace ha1 := Ft.below ha1 hb); (try replace ha2 := Ft.below ha2 hb); clear hb) | (go_at_call 21; (with_reducible refine (HK.out.2.1 _ (Ft.below hqv (by with_reducible repeat (first | assumption | apply below_alloc | apply below_drew1 | exact Below.refl _ _)))).mono ?_); rintro e zw9 ⟨A91, d91, rfl, ha1_, hb⟩; have ha1 := Ft.all ha1_; clear ha1_; have hb9 := below_step (show Below w8.heap.size w8 _ from (by with_reducible repeat (first | assumption | apply below_alloc | apply below_drew1 | exact Below.refl _ _))) hb; (try replace hp1 := Ft.below hp1 hb); (try replace hp2 := Ft.below hp2 hb); (try replace ha1 := Ft.below ha1 hb); (try replace ha2 := Ft.below ha2 hb); clear hb) | (go_at_call 22; (with_reducible refine (HK.out.2.2.1 _ (Ft.below hqv (by with_reducible repeat (first | assumption | apply below_alloc | apply below_drew1 | exact Below.refl _ _)))).mono ?_); rintro e zw10 ⟨A92, d92, rfl, ha2_, hb⟩; have ha2 := Ft.all ha2_; clear ha2_; (try replace ha1 := Ft.below ha1 hb); have hb10 := below_step (show Below w8.heap.size w8 _ from (by with_reducible repeat (first | assumption | apply below_alloc | apply below_drew1 | exact Below.refl _ _))) hb; (try replace hp1 := Ft.below hp1 hb); (try replace hp2 := Ft.below hp2 hb); (try replace ha1 := Ft.below ha1 hb); (try replace ha2 := Ft.below ha2 hb); clear hb) | (go_at_call 11; (with_reducible refine (live_walk _).mono ?_); rintro e zw12 ⟨rfl, hb⟩; have hb12 := below_step (show Below w8.heap.size w8 _ from (by with_reducible repeat (first | assumption | apply below_alloc | apply below_drew1 | exact Below.refl _ _))) hb; (try replace hp1 := Ft.below hp1 hb); (try replace hp2 := Ft.below hp2 hb); (try replace ha1 := Ft.below ha1 hb); (try replace ha2 := Ft.below ha2 hb); clear hb))
   go_wp2
   go_ret
   exact ⟨rfl, below_step HS.out.bel hb12⟩
theorem linkTells_walk (c0 c1 c2 c3 : Int) (s : Int) (A : Option Addr) (cc : Nat) (q : List Ch) (lat : Bool) (tok at_ : Int) (sn : Bool) (dg : Int) (x0 : ByteArray) (x1 : Bool) (x2 x3 x4 : Int) (x5 : ByteArray) (w : World) (hr1 : Kd.C kCh w A q.length q) (hc1 : q.length ≤ cc) (g_c0 : (Lit.int .i64 c0).wf = true) (g_c1 : (Lit.int .i64 c1).wf = true) (g_c2 : (Lit.int .i64 c2).wf = true) (g_c3 : (Lit.int .i64 c3).wf = true) (g_s : (Lit.int .i64 s).wf = true) (m1 : q.length ≤ maxLen) (o1 : ∀ x ∈ q, Ok34 x) (g_tok : (Lit.int .i64 tok).wf = true) (g_at_ : (Lit.int .i64 at_).wf = true) (g_dg : (Lit.int .i64 dg).wf = true) (g_x0 : x0.size ≤ maxLen) (g_x2 : (Lit.int .i64 x2).wf = true) (g_x3 : (Lit.int .i64 x3).wf = true) (g_x4 : (Lit.int .i64 x4).wf = true) (g_x5 : x5.size ≤ maxLen) :
  Calls Try.prog 3 #[.agg #[.int .i64 c0, .int .i64 c1, .int .i64 c2, .int .i64 c3], .agg #[.int .i64 s, .slice A q.length cc, .bool lat, .int .i64 tok, .int .i64 at_, .bool sn, .int .i64 dg], .agg #[.string x0, .bool x1, .int .i64 x2, .int .i64 x3, .int .i64 x4, .string x5]] w fun e w' => e = .returned (.bool true) ∧ Below w.heap.size w w' :=
 linkTells_go (fun _ => True) c0 c1 c2 c3 s A cc q lat tok at_ sn dg x0 x1 x2 x3 x4 x5 w w (Kn.enter _ w (by simp only [List.mem_cons, List.not_mem_nil, or_false]; rintro f rfl; exact Im.of_C kCh_heap hr1 hc1)) (fun x hx => by have := (o1 x hx).1; unfold maxLen at this; omega)
end Go.Proofs.Ytmigglldahkngaa.XHand
end
section
-- Written by a program of this session (wip/tools/xprint.py), which drives the kit's print.
namespace Go.Proofs.Ytmigglldahkngaa.linkTells
open Go.ChangeShapes Go.WideShapes Go.ChangeAt Go.RowKit Go.Proofs.YtmigglldahkngaaW.PrintWords Go.Proofs.YtmigglldahkngaaW.PrintLast Go.Proofs.YtmigglldahkngaaW.PrintMore Go.Proofs.Ytmigglldahkngaa.XOpen Go.Proofs.Ytmigglldahkngaa.PA
open Go.ChangeMaps (open_string shut_string)
set_option linter.unusedVariables false
set_option linter.unusedSimpArgs false
theorem own : ownKnob Try.prog.godebug = none := by kernel_rfl
theorem laidOut : laidOutB Try.prog = true := by kernel_rfl
theorem opens23 : Opens Try.prog 23 k23 Ok23 := Opens.iso (Opens.struct [3, 3, 3, 3] [1, 1, 1, 1] Try.underlying23 (by kernel_rfl) (by kernel_rfl) (by kernel_rfl) (by kernel_rfl) (OpensL.cons (Opens.int Try.underlying3) (OpensL.cons (Opens.int Try.underlying3) (OpensL.cons (Opens.int Try.underlying3) (OpensL.one (Opens.int Try.underlying3)))))) (fun x : S23 => (x.f0, x.f1, x.f2, x.f3)) (fun a => (⟨a.1, a.2.1, a.2.2.1, a.2.2.2⟩ : S23)) (fun _ => rfl)
theorem opens32 : Opens Try.prog 32 k32 Ok32 := Opens.iso (Opens.struct [3, 3, 3, 9] [1, 1, 1, 1] Try.underlying32 (by kernel_rfl) (by kernel_rfl) (by kernel_rfl) (by kernel_rfl) (OpensL.cons (Opens.int Try.underlying3) (OpensL.cons (Opens.int Try.underlying3) (OpensL.cons (Opens.int Try.underlying3) (OpensL.one (Opens.string Try.underlying9)))))) (fun x : S32 => (x.f0, x.f1, x.f2, x.f3)) (fun a => (⟨a.1, a.2.1, a.2.2.1, a.2.2.2⟩ : S32)) (fun _ => rfl)
theorem opens34 : Opens Try.prog 34 k34 Ok34 := Opens.iso (Opens.struct [9, 4, 32] [1, 1, 4] Try.underlying34 (by kernel_rfl) (by kernel_rfl) (by kernel_rfl) (by kernel_rfl) (OpensL.cons (Opens.string Try.underlying9) (OpensL.cons (Opens.bool Try.underlying4) (OpensL.one opens32)))) (fun x : S34 => (x.f0, x.f1, x.f2)) (fun a => (⟨a.1, a.2.1, a.2.2⟩ : S34)) (fun _ => rfl)
theorem opens26 : Opens Try.prog 26 k26 Ok26 := Opens.iso (Opens.struct [24, 4] [1, 1] Try.underlying26 (by kernel_rfl) (by kernel_rfl) (by kernel_rfl) (by kernel_rfl) (OpensL.cons (Opens.slice Try.underlying24 (by kernel_rfl) z34 opens34) (OpensL.one (Opens.bool Try.underlying4)))) (fun x : S26 => (x.f0, x.f1)) (fun a => (⟨a.1, a.2⟩ : S26)) (fun _ => rfl)
theorem opens28 : Opens Try.prog 28 k28 Ok28 := Opens.iso (Opens.struct [3, 3] [1, 1] Try.underlying28 (by kernel_rfl) (by kernel_rfl) (by kernel_rfl) (by kernel_rfl) (OpensL.cons (Opens.int Try.underlying3) (OpensL.one (Opens.int Try.underlying3)))) (fun x : S28 => (x.f0, x.f1)) (fun a => (⟨a.1, a.2⟩ : S28)) (fun _ => rfl)
theorem opens30 : Opens Try.prog 30 k30 Ok30 := Opens.iso (Opens.struct [3, 26, 28, 4, 3] [1, 2, 2, 1, 1] Try.underlying30 (by kernel_rfl) (by kernel_rfl) (by kernel_rfl) (by kernel_rfl) (OpensL.cons (Opens.int Try.underlying3) (OpensL.cons opens26 (OpensL.cons opens28 (OpensL.cons (Opens.bool Try.underlying4) (OpensL.one (Opens.int Try.underlying3))))))) (fun x : S30 => (x.f0, x.f1, x.f2, x.f3, x.f4)) (fun a => (⟨a.1, a.2.1, a.2.2.1, a.2.2.2.1, a.2.2.2.2⟩ : S30)) (fun _ => rfl)
set_option maxRecDepth 100000 in
theorem lifted (os : Os) (started : os.Started) (H : Type) (enc : TypeId × Value → H) :
  ReturnsInHanded {} Try.checked os 3 .any (Rows.linkTellsSpec.pre6 enc Try.prog Try.f3 Rows.linkTellsRow.domain false) (Rows.linkTellsSpec.post enc Try.prog Try.f3 false true false false) := by
 refine returnsInHanded_of_change_sized (C := Try.checked) own started (by kernel_rfl) Try.func3
  (ChangeSpec.witness6 (enc := enc) (C := Try.checked) false ⟨#[], #[.agg #[.int .i64 0, .int .i64 0, .int .i64 0, .int .i64 0], .agg #[.int .i64 0, .slice none 0 0, .bool false, .int .i64 0, .int .i64 0, .bool false, .int .i64 0], .agg #[.string ByteArray.empty, .bool false, .int .i64 0, .int .i64 0, .int .i64 0, .string ByteArray.empty]], []⟩ 8 (by kernel_rfl) (by kernel_rfl) (by kernel_rfl) (by kernel_rfl)) ?_
 intro W base args ds gs before hval0 hW hcnd hsz0 _
 have hsz : (DataW.weightsEach Try.prog (Try.f3.params.toList ++ Rows.linkTellsSpec.plain.varTypes Try.prog) (ds ++ gs)).all (· ≤ reachBytes) = true := hsz0
 have hval : ∀ (j : Nat) t v, Try.f3.params[j]? = some t → args[j]? = some v → Value.okWide Try.prog W .any base t v := hval0
 have hW' := hW
 obtain ⟨p, q, hA0, hV, rfl, hfz, hnd⟩ := hW
 have hA : DataW.TrodAll enc Try.prog W 0 (fun _ => true) true Try.f3.params.toList args.toList ds p := hA0
 rw [Try.params3] at hA hval hsz
 obtain ⟨v0, vs0, d0, ds0, p0, q0, hargs, rfl, rfl, h0, r0⟩ := trodAll_cons hA
 obtain ⟨v1, vs1, d1, ds1, p1, q1, rfl, rfl, rfl, h1, r1⟩ := trodAll_cons r0
 obtain ⟨v2, vs2, d2, ds2, p2, q2, rfl, rfl, rfl, h2, r2⟩ := trodAll_cons r1
 obtain ⟨rfl, rfl, rfl⟩ := trodAll_nil r2
 obtain rfl : args = #[v0, v1, v2] := by cases args; simp_all
 obtain ⟨rfl, rfl⟩ := trodVars_none hV
 have k0 := h0
 have lt0 : ∀ x ∈ p0, x.block < W.heap.size := by obtain ⟨m, hm⟩ := k0; exact DataW.trod_lt m _ _ _ hm
 obtain ⟨cs0, rfl, hs0⟩ := okWide_struct Try.underlying23 (hval 0 23 v0 rfl rfl)
 obtain ⟨x0, g0, o0⟩ : ∃ x, k23.K W x cs0.toList ∧ Ok23 x := by
  obtain ⟨fuel, hf⟩ := h0
  exact opens23 enc W 0 _ true fuel _ _ hf
 obtain e0 := k23_open g0
 obtain rfl : cs0 = #[.int .i64 x0.f0, .int .i64 x0.f1, .int .i64 x0.f2, .int .i64 x0.f3] := Array.toList_inj.1 e0
 have k1 := h1
 have lt1 : ∀ x ∈ p1, x.block < W.heap.size := by obtain ⟨m, hm⟩ := k1; exact DataW.trod_lt m _ _ _ hm
 obtain ⟨cs1, rfl, hs1⟩ := okWide_struct Try.underlying30 (hval 1 30 v1 rfl rfl)
 obtain ⟨x1, g1, o1⟩ : ∃ x, k30.K W x cs1.toList ∧ Ok30 x := by
  obtain ⟨fuel, hf⟩ := h1
  exact opens30 enc W 0 _ true fuel _ _ hf
 obtain ⟨A1_1, c1_1, e1, hc1_1, hr1_1⟩ := k30_open g1
 obtain rfl : cs1 = #[.int .i64 x1.f0, .slice A1_1 (x1.f1.f0).length c1_1, .bool x1.f1.f1, .int .i64 x1.f2.f0, .int .i64 x1.f2.f1, .bool x1.f3, .int .i64 x1.f4] := Array.toList_inj.1 e1
 have k2 := h2
 have lt2 : ∀ x ∈ p2, x.block < W.heap.size := by obtain ⟨m, hm⟩ := k2; exact DataW.trod_lt m _ _ _ hm
 obtain ⟨cs2, rfl, hs2⟩ := okWide_struct Try.underlying34 (hval 2 34 v2 rfl rfl)
 obtain ⟨x2, g2, o2⟩ : ∃ x, k34.K W x cs2.toList ∧ Ok34 x := by
  obtain ⟨fuel, hf⟩ := h2
  exact opens34 enc W 0 _ true fuel _ _ hf
 obtain e2 := k34_open g2
 obtain rfl : cs2 = #[.string x2.f0, .bool x2.f1, .int .i64 x2.f2.f0, .int .i64 x2.f2.f1, .int .i64 x2.f2.f2, .string x2.f2.f3] := Array.toList_inj.1 e2
 clear hA0 hval0 hsz0 hsz
 refine (Go.Proofs.Ytmigglldahkngaa.XHand.linkTells_walk (x0.f0) (x0.f1) (x0.f2) (x0.f3) (x1.f0) _ _ (x1.f1.f0) (x1.f1.f1) (x1.f2.f0) (x1.f2.f1) (x1.f3) (x1.f4) (x2.f0) (x2.f1) (x2.f2.f0) (x2.f2.f1) (x2.f2.f2) (x2.f2.f3) W hr1_1 hc1_1 o0.1 o0.2.1 o0.2.2.1 o0.2.2.2 o1.1 o1.2.1.1.1 o1.2.1.1.2 o1.2.2.1.1 o1.2.2.1.2 o1.2.2.2.2 o2.1 o2.2.2.1 o2.2.2.2.1 o2.2.2.2.2.1 o2.2.2.2.2.2).mono fun e W' ⟨he, bel⟩ => ?_
 subst he
 exact ⟨_, rfl, _, _, _, [], _, [], hW', trodAll_mk1 (shut_bool Try.underlying4 _), (trodAll_cons_mk (Below.trod laidOut (by kernel_rfl) (of_decide_eq_true (by kernel_rfl)) k0 bel lt0) (trodAll_cons_mk (Below.trod laidOut (by kernel_rfl) (of_decide_eq_true (by kernel_rfl)) k1 bel lt1) (trodAll_cons_mk (Below.trod laidOut (by kernel_rfl) (of_decide_eq_true (by kernel_rfl)) k2 bel lt2) trodAll_mk0))), rfl, bel.frame _, fun h => by cases h⟩
theorem over : Rows.linkTellsRow.holds Try.pinned (OpenSpec.ofChange Rows.linkTellsSpec) :=
 OpenClaim.holds_of_wide 3 Try.f3 rfl rfl rfl rfl rfl rfl rfl ⟨rfl, rfl, rfl, rfl, rfl⟩ rfl rfl rfl rfl rfl (by kernel_rfl) Try.func3 (by kernel_rfl)
  (of_decide_eq_true (by kernel_rfl)) (by unfold Func.isWrapper; first | (rw [if_pos (by decide +kernel)]; kernel_rfl) | (rw [if_neg (by decide +kernel)]; exact ⟨rfl, rfl⟩))
  (fun os started H enc _ => lifted os started H enc)
theorem proved : Rows.LinkTellsSaid := over
#print axioms proved
end Go.Proofs.Ytmigglldahkngaa.linkTells
namespace Go.Proofs.Ytmigglldahkngaa
/-- The row, under a short name, for the claim. -/
theorem linkTells_holds : Rows.LinkTellsSaid := linkTells.proved
end Go.Proofs.Ytmigglldahkngaa
end
