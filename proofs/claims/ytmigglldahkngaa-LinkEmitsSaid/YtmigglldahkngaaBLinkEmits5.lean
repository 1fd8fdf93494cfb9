-- Several texts in one, without what the law does not use (wip/tools/bundle.py).
import Derived.Test.YtmigglldahkngaaBLinkEmits4

section
/- law18's live, walked. -/
namespace Go.Proofs.Ytmigglldahkngaa.XTell
open Go.RowKit Go.Proofs.YtmigglldahkngaaW.PrintWords Go.Proofs.YtmigglldahkngaaW.PrintLast Go.Proofs.YtmigglldahkngaaW.PrintMore Go.Proofs.Ytmigglldahkngaa.PA Go.Proofs.Ytmigglldahkngaa.XMem Go.Proofs.Ytmigglldahkngaa.XSum Go.Proofs.Ytmigglldahkngaa.XSt Go.Proofs.Ytmigglldahkngaa.XKn Go.Proofs.Ytmigglldahkngaa.XQuiet
open Go.Proofs.Ytmigglldahkngaa.XV17 (mayT mayK pushK newK newK_b linkMayK same18)
set_option linter.unusedVariables false
set_option linter.unusedSimpArgs false
set_option maxRecDepth 100000
abbrev sa : ByteArray := ⟨#[97]⟩
abbrev sb : ByteArray := ⟨#[98]⟩
abbrev sc : ByteArray := ⟨#[99]⟩
abbrev s0 : ByteArray := ⟨#[]⟩
abbrev chg (s : ByteArray) : Ch := ⟨s, false, ⟨0, 0, 0, s0⟩⟩
abbrev tab : List Se := [⟨sa, ⟨4, 0, 0, s0⟩⟩]
abbrev fr1 : Fr := ⟨3, 0, false, s0, ⟨0, 0, 0, s0⟩, 0, tab⟩
abbrev fr2 : Fr := ⟨1, 1, false, sa, ⟨0, 0, 0, s0⟩, 0, []⟩
abbrev fr3 : Fr := ⟨1, 2, false, sb, ⟨0, 0, 0, s0⟩, 0, []⟩
abbrev fr4 : Fr := ⟨2, 3, false, s0, ⟨0, 0, 0, s0⟩, sumB [], []⟩
theorem kCh_heap : Kd.Heap kCh := ⟨fun _ hK => by obtain rfl := k34_open hK; exact k34_mk _ _⟩
theorem kSe_heap : Kd.Heap kSe := ⟨fun _ hK => by obtain rfl := k72_open hK; exact k72_mk _ _⟩
theorem farL {w : World} {p t n c : Nat} {A : Option Addr} {a b d e : Int} {x y : Bool} {v : Value} {l : List Ch} (h : (V kCh v l).P w (fun _ => True)) (hp : w.heap[p]? = some (.cells #[.int .i64 a, .slice A n c, .bool x, .int .i64 b, .int .i64 d, .bool y, .int .i64 e] t (0, 0))) (i : Nat) (u : Value) : (V kCh v l).P (w.setCell ⟨p, i, none⟩ u) (fun _ => True) := by
 obtain ⟨B, d, rfl, hc, hC⟩ := Im.slice h
 have hC' : kCh.C (w.setCell ⟨p, i, none⟩ u) B l.length l := by
  refine Kd.C_foot_ne (fun {_ _ _ _} hK => by obtain rfl := k34_open hK; exact k34_mk _ _) hC (fun ad ha hn hg => ?_) _ ((KeepBut.refl w p none).set_ i u)
  obtain ⟨ad', he, h0, _⟩ := at_T34 hC 0 (by omega) (by omega)
  rw [ha] at he
  injection he with he
  subst he
  obtain ⟨bl, of, fr⟩ := ad
  simp only at hg
  subst hg
  rw [show Int.toNat 0 * 6 = 0 from rfl] at h0
  cases fr with
  | some q => simp [Addr.add, World.cell?, hp] at h0
  | none =>
   have h1 := blk_cell hp of
   simp only [Addr.add, if_true] at h0
   rw [h1] at h0
   rcases of with _ | _ | _ | _ | _ | _ | _ | of <;> simp at h0
 exact ⟨B, d, rfl, hc, Kd.F_mono (Kd.C_F kCh_heap hC') (fun _ _ => trivial)⟩
theorem push_n {ok : Nat → Prop} {c0 c1 c2 c3 s : Int} {A : Option Addr} {cc : Nat} {q : List Ch} {lat : Bool} {tok at_ : Int} {sn : Bool} {dg : Int} (n n' : Nat) (x : Ch) (y0 : ByteArray) (y1 : Bool) (y2 y3 y4 : Int) (y5 : ByteArray) {r0 : Int} {r1 : List Ch} {r2 : Bool} {r3 r4 : Int} {r5 : Bool} {r6 : Int} {w : World}
  (h : pushK c0 s q lat tok at_ sn dg x = (r0, r1, r2, r3, r4, r5, r6)) (g : (V kCh (.slice A n cc) q).P w ok) (hx : x = ⟨y0, y1, ⟨y2, y3, y4, y5⟩⟩) (hn : q.length = n) (hn' : r1.length = n') (hq : q.length ≤ 1000) :
  Calls Try.prog 19 #[.agg #[.int .i64 c0, .int .i64 c1, .int .i64 c2, .int .i64 c3], .agg #[.int .i64 s, .slice A n cc, .bool lat, .int .i64 tok, .int .i64 at_, .bool sn, .int .i64 dg], .agg #[.string y0, .bool y1, .int .i64 y2, .int .i64 y3, .int .i64 y4, .string y5]] w
   fun e w' => ∃ (A' : Option Addr) (c' : Nat), e = .returned (.agg #[.int .i64 r0, .slice A' n' c', .bool r2, .int .i64 r3, .int .i64 r4, .bool r5, .int .i64 r6]) ∧ (V kCh (.slice A' n' c') r1).P w' (fun k => ok k ∨ w.heap.size ≤ k) ∧ Below w.heap.size w w' := by
 subst hn
 subst hn'
 subst hx
 exact push_kn (⟨y0, y1, ⟨y2, y3, y4, y5⟩⟩ : Ch) hq h g
theorem set7 {w g : World} {p : Nat} {v : Value} {l : List Ch} {s t a d : Int} {A : Option Addr} {n c : Nat} {b y : Bool} (T : w.heap[p]? = some (.cells #[.int .i64 0, .slice none 0 0, .bool false, .int .i64 0, .int .i64 0, .bool false, .int .i64 0] TLk (0, 0))) (h : (V kCh v l).P w (fun _ => True)) (hb : Below g.heap.size g w) (hg : g.heap.size ≤ p) :
  (((((((w.setCell ⟨p, 0, none⟩ (.int .i64 s)).setCell ⟨p, 1, none⟩ (.slice A n c)).setCell ⟨p, 2, none⟩ (.bool b)).setCell ⟨p, 3, none⟩ (.int .i64 t)).setCell ⟨p, 4, none⟩ (.int .i64 a)).setCell ⟨p, 5, none⟩ (.bool y)).setCell ⟨p, 6, none⟩ (.int .i64 d)).heap[p]? = some (.cells #[.int .i64 s, .slice A n c, .bool b, .int .i64 t, .int .i64 a, .bool y, .int .i64 d] TLk (0, 0)) ∧ (V kCh v l).P (((((((w.setCell ⟨p, 0, none⟩ (.int .i64 s)).setCell ⟨p, 1, none⟩ (.slice A n c)).setCell ⟨p, 2, none⟩ (.bool b)).setCell ⟨p, 3, none⟩ (.int .i64 t)).setCell ⟨p, 4, none⟩ (.int .i64 a)).setCell ⟨p, 5, none⟩ (.bool y)).setCell ⟨p, 6, none⟩ (.int .i64 d)) (fun _ => True) ∧ Below g.heap.size g (((((((w.setCell ⟨p, 0, none⟩ (.int .i64 s)).setCell ⟨p, 1, none⟩ (.slice A n c)).setCell ⟨p, 2, none⟩ (.bool b)).setCell ⟨p, 3, none⟩ (.int .i64 t)).setCell ⟨p, 4, none⟩ (.int .i64 a)).setCell ⟨p, 5, none⟩ (.bool y)).setCell ⟨p, 6, none⟩ (.int .i64 d)) := by
 have b0 : (w.setCell ⟨p, 0, none⟩ (.int .i64 s)).heap[p]? = some (.cells #[.int .i64 s, .slice none 0 0, .bool false, .int .i64 0, .int .i64 0, .bool false, .int .i64 0] TLk (0, 0)) := blk_set T 0 _
 have f0 : (V kCh v l).P (w.setCell ⟨p, 0, none⟩ (.int .i64 s)) (fun _ => True) := farL h T 0 _
 have n0 : Below g.heap.size g (w.setCell ⟨p, 0, none⟩ (.int .i64 s)) := below_set hb hg
 have b1 : ((w.setCell ⟨p, 0, none⟩ (.int .i64 s)).setCell ⟨p, 1, none⟩ (.slice A n c)).heap[p]? = some (.cells #[.int .i64 s, .slice A n c, .bool false, .int .i64 0, .int .i64 0, .bool false, .int .i64 0] TLk (0, 0)) := blk_set b0 1 _
 have f1 : (V kCh v l).P ((w.setCell ⟨p, 0, none⟩ (.int .i64 s)).setCell ⟨p, 1, none⟩ (.slice A n c)) (fun _ => True) := farL f0 b0 1 _
 have n1 : Below g.heap.size g ((w.setCell ⟨p, 0, none⟩ (.int .i64 s)).setCell ⟨p, 1, none⟩ (.slice A n c)) := below_set n0 hg
 have b2 : (((w.setCell ⟨p, 0, none⟩ (.int .i64 s)).setCell ⟨p, 1, none⟩ (.slice A n c)).setCell ⟨p, 2, none⟩ (.bool b)).heap[p]? = some (.cells #[.int .i64 s, .slice A n c, .bool b, .int .i64 0, .int .i64 0, .bool false, .int .i64 0] TLk (0, 0)) := blk_set b1 2 _
 have f2 : (V kCh v l).P (((w.setCell ⟨p, 0, none⟩ (.int .i64 s)).setCell ⟨p, 1, none⟩ (.slice A n c)).setCell ⟨p, 2, none⟩ (.bool b)) (fun _ => True) := farL f1 b1 2 _
 have n2 : Below g.heap.size g (((w.setCell ⟨p, 0, none⟩ (.int .i64 s)).setCell ⟨p, 1, none⟩ (.slice A n c)).setCell ⟨p, 2, none⟩ (.bool b)) := below_set n1 hg
 have b3 : ((((w.setCell ⟨p, 0, none⟩ (.int .i64 s)).setCell ⟨p, 1, none⟩ (.slice A n c)).setCell ⟨p, 2, none⟩ (.bool b)).setCell ⟨p, 3, none⟩ (.int .i64 t)).heap[p]? = some (.cells #[.int .i64 s, .slice A n c, .bool b, .int .i64 t, .int .i64 0, .bool false, .int .i64 0] TLk (0, 0)) := blk_set b2 3 _
 have f3 : (V kCh v l).P ((((w.setCell ⟨p, 0, none⟩ (.int .i64 s)).setCell ⟨p, 1, none⟩ (.slice A n c)).setCell ⟨p, 2, none⟩ (.bool b)).setCell ⟨p, 3, none⟩ (.int .i64 t)) (fun _ => True) := farL f2 b2 3 _
 have n3 : Below g.heap.size g ((((w.setCell ⟨p, 0, none⟩ (.int .i64 s)).setCell ⟨p, 1, none⟩ (.slice A n c)).setCell ⟨p, 2, none⟩ (.bool b)).setCell ⟨p, 3, none⟩ (.int .i64 t)) := below_set n2 hg
 have b4 : (((((w.setCell ⟨p, 0, none⟩ (.int .i64 s)).setCell ⟨p, 1, none⟩ (.slice A n c)).setCell ⟨p, 2, none⟩ (.bool b)).setCell ⟨p, 3, none⟩ (.int .i64 t)).setCell ⟨p, 4, none⟩ (.int .i64 a)).heap[p]? = some (.cells #[.int .i64 s, .slice A n c, .bool b, .int .i64 t, .int .i64 a, .bool false, .int .i64 0] TLk (0, 0)) := blk_set b3 4 _
 have f4 : (V kCh v l).P (((((w.setCell ⟨p, 0, none⟩ (.int .i64 s)).setCell ⟨p, 1, none⟩ (.slice A n c)).setCell ⟨p, 2, none⟩ (.bool b)).setCell ⟨p, 3, none⟩ (.int .i64 t)).setCell ⟨p, 4, none⟩ (.int .i64 a)) (fun _ => True) := farL f3 b3 4 _
 have n4 : Below g.heap.size g (((((w.setCell ⟨p, 0, none⟩ (.int .i64 s)).setCell ⟨p, 1, none⟩ (.slice A n c)).setCell ⟨p, 2, none⟩ (.bool b)).setCell ⟨p, 3, none⟩ (.int .i64 t)).setCell ⟨p, 4, none⟩ (.int .i64 a)) := below_set n3 hg
 have b5 : ((((((w.setCell ⟨p, 0, none⟩ (.int .i64 s)).setCell ⟨p, 1, none⟩ (.slice A n c)).setCell ⟨p, 2, none⟩ (.bool b)).setCell ⟨p, 3, none⟩ (.int .i64 t)).setCell ⟨p, 4, none⟩ (.int .i64 a)).setCell ⟨p, 5, none⟩ (.bool y)).heap[p]? = some (.cells #[.int .i64 s, .slice A n c, .bool b, .int .i64 t, .int .i64 a, .bool y, .int .i64 0] TLk (0, 0)) := blk_set b4 5 _
 have f5 : (V kCh v l).P ((((((w.setCell ⟨p, 0, none⟩ (.int .i64 s)).setCell ⟨p, 1, none⟩ (.slice A n c)).setCell ⟨p, 2, none⟩ (.bool b)).setCell ⟨p, 3, none⟩ (.int .i64 t)).setCell ⟨p, 4, none⟩ (.int .i64 a)).setCell ⟨p, 5, none⟩ (.bool y)) (fun _ => True) := farL f4 b4 5 _
 have n5 : Below g.heap.size g ((((((w.setCell ⟨p, 0, none⟩ (.int .i64 s)).setCell ⟨p, 1, none⟩ (.slice A n c)).setCell ⟨p, 2, none⟩ (.bool b)).setCell ⟨p, 3, none⟩ (.int .i64 t)).setCell ⟨p, 4, none⟩ (.int .i64 a)).setCell ⟨p, 5, none⟩ (.bool y)) := below_set n4 hg
 have b6 : (((((((w.setCell ⟨p, 0, none⟩ (.int .i64 s)).setCell ⟨p, 1, none⟩ (.slice A n c)).setCell ⟨p, 2, none⟩ (.bool b)).setCell ⟨p, 3, none⟩ (.int .i64 t)).setCell ⟨p, 4, none⟩ (.int .i64 a)).setCell ⟨p, 5, none⟩ (.bool y)).setCell ⟨p, 6, none⟩ (.int .i64 d)).heap[p]? = some (.cells #[.int .i64 s, .slice A n c, .bool b, .int .i64 t, .int .i64 a, .bool y, .int .i64 d] TLk (0, 0)) := blk_set b5 6 _
 have f6 : (V kCh v l).P (((((((w.setCell ⟨p, 0, none⟩ (.int .i64 s)).setCell ⟨p, 1, none⟩ (.slice A n c)).setCell ⟨p, 2, none⟩ (.bool b)).setCell ⟨p, 3, none⟩ (.int .i64 t)).setCell ⟨p, 4, none⟩ (.int .i64 a)).setCell ⟨p, 5, none⟩ (.bool y)).setCell ⟨p, 6, none⟩ (.int .i64 d)) (fun _ => True) := farL f5 b5 6 _
 have n6 : Below g.heap.size g (((((((w.setCell ⟨p, 0, none⟩ (.int .i64 s)).setCell ⟨p, 1, none⟩ (.slice A n c)).setCell ⟨p, 2, none⟩ (.bool b)).setCell ⟨p, 3, none⟩ (.int .i64 t)).setCell ⟨p, 4, none⟩ (.int .i64 a)).setCell ⟨p, 5, none⟩ (.bool y)).setCell ⟨p, 6, none⟩ (.int .i64 d)) := below_set n5 hg
 exact ⟨b6, f6, n6⟩
theorem add10 (a : Addr) : a.add 10 = ⟨a.block, a.off + 10, none⟩ := by simp [Addr.add]
theorem add0 (a : Addr) : a.add 0 = a := by simp [Addr.add]
theorem live_x : link_May.f 200 2 2 1 5 4 [] false 0 16 false 16 = some true := by kernel_rfl
theorem live_y : link_May.f 200 2 2 1 5 (-1) [] false 0 0 false 0 = some false := by kernel_rfl
theorem live_m : emitK 2 2 1 5 0 [] false 2 10 true 10 tab 10 = some ⟨1, [], false, 1, 10, 10, [fr1]⟩ := by kernel_rfl
theorem live_o : emitK 2 2 1 5 1 [chg sa, chg sb] false 1 10 false 10 [] 10 = some ⟨2, [chg sb], false, 0, 10, 10, [fr2]⟩ := by kernel_rfl
theorem live_p : emitK 2 2 1 5 2 [chg sb] false 0 10 false 10 [] 10 = some ⟨2, [chg sb], false, 0, 10, 10, []⟩ := by kernel_rfl
theorem live_q : emitK 2 2 1 5 2 [chg sb] false 0 10 false 10 [] 16 = some ⟨4, [], false, 0, 16, 16, [fr3, fr4]⟩ := by kernel_rfl
theorem live_n1 : pushK 2 1 [] false 1 10 false 10 (chg sa) = (1, [chg sa], false, 1, 10, false, 10) := by kernel_rfl
theorem live_n2 : pushK 2 1 [chg sa] false 1 10 false 10 (chg sb) = (1, [chg sa, chg sb], false, 1, 10, false, 10) := by kernel_rfl
theorem live_r : pushK 2 1 [chg sa, chg sb] false 1 10 false 10 (chg sc) = (1, [], false, 1, 10, true, 10) := by kernel_rfl
set_option maxHeartbeats 8000000 in
theorem live_go (ok : Nat → Prop) (w0 w : World) (S : Kn ok w0 [] nil tt [] w) :
  Calls Try.prog 11 #[] w fun e w' => e = .returned (.bool true) ∧ Below w0.heap.size w0 w' := by
 go_enter Try.func11, Try.ntmps11
 go_upto_region 2 with (fail)
 generalize hg : World.alloc _ _ = w1
 replace S := S.new hg
 clear hg
 generalize w.heap.size = p1 at S ⊢
 replace S : Kn ok w0 [(p1, .cells #[.int .i64 2, .int .i64 2, .int .i64 1, .int .i64 5] TCf (0, 0))] nil tt [] w1 := S
 go_upto_region 3 with (fail)
 generalize hg : World.alloc _ _ = w2
 replace S := S.new hg
 clear hg
 generalize w1.heap.size = p2 at S ⊢
 replace S : Kn ok w0 [(p2, .cells #[.int .i64 4, .int .i64 0, .int .i64 0, .string s0] 32 (0, 0)), (p1, .cells #[.int .i64 2, .int .i64 2, .int .i64 1, .int .i64 5] TCf (0, 0))] nil tt [] w2 := S
 have v_0 : w2.cell? ⟨p2, 0, none⟩ = some (.int .i64 4) := S.cell 0 0 rfl rfl
 have v_1 : w2.cell? ⟨p2, 1, none⟩ = some (.int .i64 0) := S.cell 0 1 rfl rfl
 have v_2 : w2.cell? ⟨p2, 2, none⟩ = some (.int .i64 0) := S.cell 0 2 rfl rfl
 have v_3 : w2.cell? ⟨p2, 3, none⟩ = some (.string s0) := S.cell 0 3 rfl rfl
 go_upto_region 4 with (fail)
 generalize hg : World.alloc _ _ = w3
 have ht : (V kSe (.slice (some ⟨w2.heap.size, 0, none⟩) 1 1) tab).P w3 (fun _ => True) := by
  have := Im.lit kSe hg (xs := tab) (Reps.c5 (k72_mkM _ _ _ (⟨sa, ⟨4, 0, 0, s0⟩⟩ : Se)) (Reps.none _ _)) (by simp)
  exact this
 replace S := S.new hg
 clear hg
 generalize w2.heap.size = p3 at S ht ⊢
 clear v_0 v_1 v_2 v_3
 replace S : Kn ok w0 [(p3, .cells #[.string sa, .int .i64 4, .int .i64 0, .int .i64 0, .string s0] 72 (0, 0)), (p2, .cells #[.int .i64 4, .int .i64 0, .int .i64 0, .string s0] 32 (0, 0)), (p1, .cells #[.int .i64 2, .int .i64 2, .int .i64 1, .int .i64 5] TCf (0, 0))] nil tt [] w3 := S
 have c_0 : w3.cell? ⟨p1, 0, none⟩ = some (.int .i64 2) := S.cell 2 0 rfl rfl
 have c_1 : w3.cell? ⟨p1, 1, none⟩ = some (.int .i64 2) := S.cell 2 1 rfl rfl
 have c_2 : w3.cell? ⟨p1, 2, none⟩ = some (.int .i64 1) := S.cell 2 2 rfl rfl
 have c_3 : w3.cell? ⟨p1, 3, none⟩ = some (.int .i64 5) := S.cell 2 3 rfl rfl
 go_wp2_with fail
 refine (link_New.kn (newK_b 2 2 1 5 10)).mono ?_
 rintro e w4 ⟨A4, e4, rfl, hV, hb⟩
 replace S := S.below hb
 replace ht := Ft.below ht hb
 have hl := Ft.all hV
 clear hV
 clear c_0 c_1 c_2 c_3 hb
 skip
 go_upto_region 5 with (fail)
 generalize hg : World.alloc _ _ = w5
 replace S := S.new hg
 have hbx : Below w4.heap.size w4 w5 := hg ▸ (by repeat (first | exact Below.refl _ _ | apply below_alloc))
 replace ht := Ft.below ht hbx
 replace hl := Ft.below hl hbx
 clear hbx
 clear hg
 generalize w4.heap.size = p4 at S ⊢
 replace S : Kn ok w0 [(p4, .cells #[.int .i64 0, .slice A4 0 e4, .bool false, .int .i64 2, .int .i64 10, .bool true, .int .i64 10] TLk (0, 0)), (p3, .cells #[.string sa, .int .i64 4, .int .i64 0, .int .i64 0, .string s0] 72 (0, 0)), (p2, .cells #[.int .i64 4, .int .i64 0, .int .i64 0, .string s0] 32 (0, 0)), (p1, .cells #[.int .i64 2, .int .i64 2, .int .i64 1, .int .i64 5] TCf (0, 0))] nil tt [] w5 := S
 go_wp2_with fail
 refine (link_New.kn (newK_b 0 0 0 0 10)).mono ?_
 rintro e w6 ⟨A6, e6, rfl, hV, hb⟩
 replace S := S.below hb
 replace ht := Ft.below ht hb
 replace hl := Ft.below hl hb
 clear hb hV
 go_upto_region 6 with (fail)
 generalize hg : World.alloc _ _ = w7
 replace S := S.new hg
 have hbx : Below w6.heap.size w6 w7 := hg ▸ (by repeat (first | exact Below.refl _ _ | apply below_alloc))
 replace ht := Ft.below ht hbx
 replace hl := Ft.below hl hbx
 clear hbx
 clear hg
 generalize w6.heap.size = p6 at S ⊢
 replace S : Kn ok w0 [(p6, .cells #[.int .i64 0, .slice A6 0 e6, .bool false, .int .i64 0, .int .i64 0, .bool false, .int .i64 0] TLk (0, 0)), (p4, .cells #[.int .i64 0, .slice A4 0 e4, .bool false, .int .i64 2, .int .i64 10, .bool true, .int .i64 10] TLk (0, 0)), (p3, .cells #[.string sa, .int .i64 4, .int .i64 0, .int .i64 0, .string s0] 72 (0, 0)), (p2, .cells #[.int .i64 4, .int .i64 0, .int .i64 0, .string s0] 32 (0, 0)), (p1, .cells #[.int .i64 2, .int .i64 2, .int .i64 1, .int .i64 5] TCf (0, 0))] nil tt [] w7 := S
 have c_0 : w7.cell? ⟨p1, 0, none⟩ = some (.int .i64 2) := S.cell 4 0 rfl rfl
 have c_1 : w7.cell? ⟨p1, 1, none⟩ = some (.int .i64 2) := S.cell 4 1 rfl rfl
 have c_2 : w7.cell? ⟨p1, 2, none⟩ = some (.int .i64 1) := S.cell 4 2 rfl rfl
 have c_3 : w7.cell? ⟨p1, 3, none⟩ = some (.int .i64 5) := S.cell 4 3 rfl rfl
 have l_0 : w7.cell? ⟨p4, 0, none⟩ = some (.int .i64 0) := S.cell 1 0 rfl rfl
 have l_1 : w7.cell? ⟨p4, 1, none⟩ = some (.slice A4 0 e4) := S.cell 1 1 rfl rfl
 have l_2 : w7.cell? ⟨p4, 2, none⟩ = some (.bool false) := S.cell 1 2 rfl rfl
 have l_3 : w7.cell? ⟨p4, 3, none⟩ = some (.int .i64 2) := S.cell 1 3 rfl rfl
 have l_4 : w7.cell? ⟨p4, 4, none⟩ = some (.int .i64 10) := S.cell 1 4 rfl rfl
 have l_5 : w7.cell? ⟨p4, 5, none⟩ = some (.bool true) := S.cell 1 5 rfl rfl
 have l_6 : w7.cell? ⟨p4, 6, none⟩ = some (.int .i64 10) := S.cell 1 6 rfl rfl
 go_wp2_with fail
 refine (emit_kn (ok := fun _ => True) (by decide) (by decide) (by decide) (by decide) live_m hl ht).mono ?_
 rintro e w8 ⟨A8, e8, B8, d8, rfl, hV, hF, hb⟩
 replace S := S.below hb
 replace ht := Ft.below ht hb
 replace hl := Ft.below hl hb
 have hm := Ft.all hV
 clear hV
 have fm := Ft.all hF
 clear hF
 clear c_0 c_1 c_2 c_3 l_0 l_1 l_2 l_3 l_4 l_5 l_6 hb
 go_upto_region 7 with (fail)
 generalize hg : World.alloc _ _ = w9
 replace S := S.new hg
 have hbx : Below w8.heap.size w8 w9 := hg ▸ (by repeat (first | exact Below.refl _ _ | apply below_alloc))
 replace ht := Ft.below ht hbx
 replace hl := Ft.below hl hbx
 replace hm := Ft.below hm hbx
 replace fm := Ft.below fm hbx
 clear hbx
 clear hg
 generalize w8.heap.size = p8 at S ⊢
 replace S : Kn ok w0 [(p8, .cells #[.int .i64 1, .slice A8 0 e8, .bool false, .int .i64 1, .int .i64 10, .bool false, .int .i64 10] TLk (0, 0)), (p6, .cells #[.int .i64 0, .slice A6 0 e6, .bool false, .int .i64 0, .int .i64 0, .bool false, .int .i64 0] TLk (0, 0)), (p4, .cells #[.int .i64 0, .slice A4 0 e4, .bool false, .int .i64 2, .int .i64 10, .bool true, .int .i64 10] TLk (0, 0)), (p3, .cells #[.string sa, .int .i64 4, .int .i64 0, .int .i64 0, .string s0] 72 (0, 0)), (p2, .cells #[.int .i64 4, .int .i64 0, .int .i64 0, .string s0] 32 (0, 0)), (p1, .cells #[.int .i64 2, .int .i64 2, .int .i64 1, .int .i64 5] TCf (0, 0))] nil tt [] w9 := S
 have SS : ∀ w' : World, Below w9.heap.size w9 w' → w'.cell? ⟨p1, 0, none⟩ = some (.int .i64 2) ∧ w'.cell? ⟨p1, 1, none⟩ = some (.int .i64 2) ∧ w'.cell? ⟨p1, 2, none⟩ = some (.int .i64 1) ∧ w'.cell? ⟨p1, 3, none⟩ = some (.int .i64 5) ∧ w'.cell? ⟨p8, 0, none⟩ = some (.int .i64 1) ∧ w'.cell? ⟨p8, 1, none⟩ = some (.slice A8 0 e8) ∧ w'.cell? ⟨p8, 2, none⟩ = some (.bool false) ∧ w'.cell? ⟨p8, 3, none⟩ = some (.int .i64 1) ∧ w'.cell? ⟨p8, 4, none⟩ = some (.int .i64 10) ∧ w'.cell? ⟨p8, 5, none⟩ = some (.bool false) ∧ w'.cell? ⟨p8, 6, none⟩ = some (.int .i64 10) := fun w' hb => by
  have S := S.below hb
  exact ⟨S.cell 5 0 rfl rfl, S.cell 5 1 rfl rfl, S.cell 5 2 rfl rfl, S.cell 5 3 rfl rfl, S.cell 0 0 rfl rfl, S.cell 0 1 rfl rfl, S.cell 0 2 rfl rfl, S.cell 0 3 rfl rfl, S.cell 0 4 rfl rfl, S.cell 0 5 rfl rfl, S.cell 0 6 rfl rfl⟩
 have HS := Aside0.mk S
 clear S
 have hm0 : (V kCh (.slice A8 0 e8) []).P w9 (fun _ => True) := hm
 go_wp2_with fail
 go_cut [10] (fun s10 wx => ∃ p A c, s10 = .pointer (some ⟨p, 0, none⟩) ∧ wx.heap[p]? = some (.cells #[.int .i64 1, .slice A 2 c, .bool false, .int .i64 1, .int .i64 10, .bool false, .int .i64 10] TLk (0, 0)) ∧ (V kCh (.slice A 2 c) [chg sa, chg sb]).P wx (fun _ => True) ∧ Below w9.heap.size w9 wx ∧ w9.heap.size ≤ p)
 case first =>
  go_region_held3 (fun w' => w'.cell? ⟨p1, 0, none⟩ = some (.int .i64 2) ∧ w'.cell? ⟨p1, 1, none⟩ = some (.int .i64 2) ∧ w'.cell? ⟨p1, 2, none⟩ = some (.int .i64 1) ∧ w'.cell? ⟨p1, 3, none⟩ = some (.int .i64 5) ∧ w'.cell? ⟨p8, 0, none⟩ = some (.int .i64 1) ∧ w'.cell? ⟨p8, 1, none⟩ = some (.slice A8 0 e8) ∧ w'.cell? ⟨p8, 2, none⟩ = some (.bool false) ∧ w'.cell? ⟨p8, 3, none⟩ = some (.int .i64 1) ∧ w'.cell? ⟨p8, 4, none⟩ = some (.int .i64 10) ∧ w'.cell? ⟨p8, 5, none⟩ = some (.bool false) ∧ w'.cell? ⟨p8, 6, none⟩ = some (.int .i64 10)) (exact SS _ (by with_reducible repeat (first | assumption | apply below_alloc | apply below_drew1 | refine below_set ?_ (by first | exact hb2.size | exact hb1.size | exact Nat.le_refl _) | exact Below.refl _ _))) (first | (go_at_call 19; (with_reducible refine (push_n (ok := fun _ => True) 1 2 (chg sb) sb false 0 0 0 s0 live_n2 (Ft.below hp1 ?hq) rfl rfl rfl (by decide)).mono ?_); (case hq => with_reducible repeat (first | assumption | apply below_alloc | apply below_drew1 | exact Below.refl _ _)); rintro e x2 ⟨A2, d2, rfl, hp2, hb⟩; replace hp2 := Ft.all hp2; have hb2 := below_step (show Below w9.heap.size w9 _ from (by with_reducible repeat (first | assumption | apply below_alloc | apply below_drew1 | refine below_set ?_ (by first | exact hb2.size | exact hb1.size | exact Nat.le_refl _) | exact Below.refl _ _))) hb; (first | replace T5 := blk_below T5 hb | have T5 := blk_below (heap_alloc_new _ _) hb | have T5 := blk_below (new_drew _ _) hb | skip); (try rw [show w9.drew.heap.size = w9.heap.size from rfl] at T5); (try (have k0_ := (blk_cell T5 0).trans rfl; have z0_ := blk_frozen T5 0; have k1_ := (blk_cell T5 1).trans rfl; have z1_ := blk_frozen T5 1; have k2_ := (blk_cell T5 2).trans rfl; have z2_ := blk_frozen T5 2; have k3_ := (blk_cell T5 3).trans rfl; have z3_ := blk_frozen T5 3; have k4_ := (blk_cell T5 4).trans rfl; have z4_ := blk_frozen T5 4; have k5_ := (blk_cell T5 5).trans rfl; have z5_ := blk_frozen T5 5; have k6_ := (blk_cell T5 6).trans rfl; have z6_ := blk_frozen T5 6)); clear hb) | (go_at_call 19; (with_reducible refine (push_n (ok := fun _ => True) 0 1 (chg sa) sa false 0 0 0 s0 live_n1 (Ft.below hm0 ?hq) rfl rfl rfl (by decide)).mono ?_); (case hq => with_reducible repeat (first | assumption | apply below_alloc | apply below_drew1 | exact Below.refl _ _)); rintro e x1 ⟨A1, d1, rfl, hp1, hb⟩; replace hp1 := Ft.all hp1; have hb1 := below_step (show Below w9.heap.size w9 _ from (by with_reducible repeat (first | assumption | apply below_alloc | apply below_drew1 | refine below_set ?_ (by first | exact hb2.size | exact hb1.size | exact Nat.le_refl _) | exact Below.refl _ _))) hb; (first | replace T5 := blk_below T5 hb | have T5 := blk_below (heap_alloc_new _ _) hb | have T5 := blk_below (new_drew _ _) hb | skip); (try rw [show w9.drew.heap.size = w9.heap.size from rfl] at T5); (try (have k0_ := (blk_cell T5 0).trans rfl; have z0_ := blk_frozen T5 0; have k1_ := (blk_cell T5 1).trans rfl; have z1_ := blk_frozen T5 1; have k2_ := (blk_cell T5 2).trans rfl; have z2_ := blk_frozen T5 2; have k3_ := (blk_cell T5 3).trans rfl; have z3_ := blk_frozen T5 3; have k4_ := (blk_cell T5 4).trans rfl; have z4_ := blk_frozen T5 4; have k5_ := (blk_cell T5 5).trans rfl; have z5_ := blk_frozen T5 5; have k6_ := (blk_cell T5 6).trans rfl; have z6_ := blk_frozen T5 6)); clear hb))
  all_goals (go_wp2_with fail; go_meet; with_reducible first | exact ⟨x2.heap.size, A2, d2, rfl, heap_alloc_new _ _, Ft.below hp2 (below_alloc (Below.refl _ _) _), below_alloc hb2 _, hb2.size⟩ | exact ⟨_, A2, d2, rfl, (set7 T5 hp2 hb2 (by first | exact hb1.size | exact Nat.le_refl _)).1, (set7 T5 hp2 hb2 (by first | exact hb1.size | exact Nat.le_refl _)).2.1, (set7 T5 hp2 hb2 (by first | exact hb1.size | exact Nat.le_refl _)).2.2, (by first | exact hb1.size | exact Nat.le_refl _)⟩)
 case rest =>
  obtain ⟨p10, A10, e10, rfl, T5, hn, hb, hlt⟩ := hcut
  skip
  have S := HS.out.newAt hb hlt T5
  replace ht := Ft.below ht hb
  replace hl := Ft.below hl hb
  replace hm := Ft.below hm hb
  replace fm := Ft.below fm hb
  clear SS HS hb hlt T5 hm0
  replace S : Kn ok w0 [(p10, .cells #[.int .i64 1, .slice A10 2 e10, .bool false, .int .i64 1, .int .i64 10, .bool false, .int .i64 10] TLk (0, 0)), (p8, .cells #[.int .i64 1, .slice A8 0 e8, .bool false, .int .i64 1, .int .i64 10, .bool false, .int .i64 10] TLk (0, 0)), (p6, .cells #[.int .i64 0, .slice A6 0 e6, .bool false, .int .i64 0, .int .i64 0, .bool false, .int .i64 0] TLk (0, 0)), (p4, .cells #[.int .i64 0, .slice A4 0 e4, .bool false, .int .i64 2, .int .i64 10, .bool true, .int .i64 10] TLk (0, 0)), (p3, .cells #[.string sa, .int .i64 4, .int .i64 0, .int .i64 0, .string s0] 72 (0, 0)), (p2, .cells #[.int .i64 4, .int .i64 0, .int .i64 0, .string s0] 32 (0, 0)), (p1, .cells #[.int .i64 2, .int .i64 2, .int .i64 1, .int .i64 5] TCf (0, 0))] nil tt [] wc := S
  have hz : (V kSe (.slice none 0 0) []).P wc (fun _ => True) := V_any (Kd.V_nil kSe 0 wc 0 _)
  have c_0 : wc.cell? ⟨p1, 0, none⟩ = some (.int .i64 2) := S.cell 6 0 rfl rfl
  have c_1 : wc.cell? ⟨p1, 1, none⟩ = some (.int .i64 2) := S.cell 6 1 rfl rfl
  have c_2 : wc.cell? ⟨p1, 2, none⟩ = some (.int .i64 1) := S.cell 6 2 rfl rfl
  have c_3 : wc.cell? ⟨p1, 3, none⟩ = some (.int .i64 5) := S.cell 6 3 rfl rfl
  have n_0 : wc.cell? ⟨p10, 0, none⟩ = some (.int .i64 1) := S.cell 0 0 rfl rfl
  have n_1 : wc.cell? ⟨p10, 1, none⟩ = some (.slice A10 2 e10) := S.cell 0 1 rfl rfl
  have n_2 : wc.cell? ⟨p10, 2, none⟩ = some (.bool false) := S.cell 0 2 rfl rfl
  have n_3 : wc.cell? ⟨p10, 3, none⟩ = some (.int .i64 1) := S.cell 0 3 rfl rfl
  have n_4 : wc.cell? ⟨p10, 4, none⟩ = some (.int .i64 10) := S.cell 0 4 rfl rfl
  have n_5 : wc.cell? ⟨p10, 5, none⟩ = some (.bool false) := S.cell 0 5 rfl rfl
  have n_6 : wc.cell? ⟨p10, 6, none⟩ = some (.int .i64 10) := S.cell 0 6 rfl rfl
  go_wp2_with fail
  refine (emit_kn (ok := fun _ => True) (by decide) (by decide) (by decide) (by decide) live_o hn hz).mono ?_
  rintro e w11 ⟨A11, e11, B11, d11, rfl, hV, hF, hb⟩
  replace S := S.below hb
  replace ht := Ft.below ht hb
  replace hl := Ft.below hl hb
  replace hm := Ft.below hm hb
  replace fm := Ft.below fm hb
  replace hn := Ft.below hn hb
  replace hz := Ft.below hz hb
  have ho := Ft.all hV
  clear hV
  have fo := Ft.all hF
  clear hF
  clear c_0 c_1 c_2 c_3 n_0 n_1 n_2 n_3 n_4 n_5 n_6 hb
  go_upto_region 9 with (fail)
  generalize hg : World.alloc _ _ = w12
  replace S := S.new hg
  have hbx : Below w11.heap.size w11 w12 := hg ▸ (by repeat (first | exact Below.refl _ _ | apply below_alloc))
  replace ht := Ft.below ht hbx
  replace hl := Ft.below hl hbx
  replace hm := Ft.below hm hbx
  replace fm := Ft.below fm hbx
  replace hn := Ft.below hn hbx
  replace hz := Ft.below hz hbx
  replace ho := Ft.below ho hbx
  replace fo := Ft.below fo hbx
  clear hbx
  clear hg
  generalize w11.heap.size = p11 at S ⊢
  replace S : Kn ok w0 [(p11, .cells #[.int .i64 2, .slice A11 1 e11, .bool false, .int .i64 0, .int .i64 10, .bool false, .int .i64 10] TLk (0, 0)), (p10, .cells #[.int .i64 1, .slice A10 2 e10, .bool false, .int .i64 1, .int .i64 10, .bool false, .int .i64 10] TLk (0, 0)), (p8, .cells #[.int .i64 1, .slice A8 0 e8, .bool false, .int .i64 1, .int .i64 10, .bool false, .int .i64 10] TLk (0, 0)), (p6, .cells #[.int .i64 0, .slice A6 0 e6, .bool false, .int .i64 0, .int .i64 0, .bool false, .int .i64 0] TLk (0, 0)), (p4, .cells #[.int .i64 0, .slice A4 0 e4, .bool false, .int .i64 2, .int .i64 10, .bool true, .int .i64 10] TLk (0, 0)), (p3, .cells #[.string sa, .int .i64 4, .int .i64 0, .int .i64 0, .string s0] 72 (0, 0)), (p2, .cells #[.int .i64 4, .int .i64 0, .int .i64 0, .string s0] 32 (0, 0)), (p1, .cells #[.int .i64 2, .int .i64 2, .int .i64 1, .int .i64 5] TCf (0, 0))] nil tt [] w12 := S
  have c_0 : w12.cell? ⟨p1, 0, none⟩ = some (.int .i64 2) := S.cell 7 0 rfl rfl
  have c_1 : w12.cell? ⟨p1, 1, none⟩ = some (.int .i64 2) := S.cell 7 1 rfl rfl
  have c_2 : w12.cell? ⟨p1, 2, none⟩ = some (.int .i64 1) := S.cell 7 2 rfl rfl
  have c_3 : w12.cell? ⟨p1, 3, none⟩ = some (.int .i64 5) := S.cell 7 3 rfl rfl
  have o_0 : w12.cell? ⟨p11, 0, none⟩ = some (.int .i64 2) := S.cell 0 0 rfl rfl
  have o_1 : w12.cell? ⟨p11, 1, none⟩ = some (.slice A11 1 e11) := S.cell 0 1 rfl rfl
  have o_2 : w12.cell? ⟨p11, 2, none⟩ = some (.bool false) := S.cell 0 2 rfl rfl
  have o_3 : w12.cell? ⟨p11, 3, none⟩ = some (.int .i64 0) := S.cell 0 3 rfl rfl
  have o_4 : w12.cell? ⟨p11, 4, none⟩ = some (.int .i64 10) := S.cell 0 4 rfl rfl
  have o_5 : w12.cell? ⟨p11, 5, none⟩ = some (.bool false) := S.cell 0 5 rfl rfl
  have o_6 : w12.cell? ⟨p11, 6, none⟩ = some (.int .i64 10) := S.cell 0 6 rfl rfl
  go_wp2_with fail
  refine (emit_kn (ok := fun _ => True) (by decide) (by decide) (by decide) (by decide) live_p ho hz).mono ?_
  rintro e w13 ⟨A13, e13, B13, d13, rfl, hV, hF, hb⟩
  replace S := S.below hb
  replace ht := Ft.below ht hb
  replace hl := Ft.below hl hb
  replace hm := Ft.below hm hb
  replace fm := Ft.below fm hb
  replace hn := Ft.below hn hb
  replace hz := Ft.below hz hb
  replace ho := Ft.below ho hb
  replace fo := Ft.below fo hb
  have hp := Ft.all hV
  clear hV
  have fp := Ft.all hF
  clear hF
  clear c_0 c_1 c_2 c_3 o_0 o_1 o_2 o_3 o_4 o_5 o_6 hb
  go_upto_region 10 with (fail)
  generalize hg : World.alloc _ _ = w14
  replace S := S.new hg
  have hbx : Below w13.heap.size w13 w14 := hg ▸ (by repeat (first | exact Below.refl _ _ | apply below_alloc))
  replace ht := Ft.below ht hbx
  replace hl := Ft.below hl hbx
  replace hm := Ft.below hm hbx
  replace fm := Ft.below fm hbx
  replace hn := Ft.below hn hbx
  replace hz := Ft.below hz hbx
  replace ho := Ft.below ho hbx
  replace fo := Ft.below fo hbx
  replace hp := Ft.below hp hbx
  replace fp := Ft.below fp hbx
  clear hbx
  clear hg
  generalize w13.heap.size = p13 at S ⊢
  replace S : Kn ok w0 [(p13, .cells #[.int .i64 2, .slice A13 1 e13, .bool false, .int .i64 0, .int .i64 10, .bool false, .int .i64 10] TLk (0, 0)), (p11, .cells #[.int .i64 2, .slice A11 1 e11, .bool false, .int .i64 0, .int .i64 10, .bool false, .int .i64 10] TLk (0, 0)), (p10, .cells #[.int .i64 1, .slice A10 2 e10, .bool false, .int .i64 1, .int .i64 10, .bool false, .int .i64 10] TLk (0, 0)), (p8, .cells #[.int .i64 1, .slice A8 0 e8, .bool false, .int .i64 1, .int .i64 10, .bool false, .int .i64 10] TLk (0, 0)), (p6, .cells #[.int .i64 0, .slice A6 0 e6, .bool false, .int .i64 0, .int .i64 0, .bool false, .int .i64 0] TLk (0, 0)), (p4, .cells #[.int .i64 0, .slice A4 0 e4, .bool false, .int .i64 2, .int .i64 10, .bool true, .int .i64 10] TLk (0, 0)), (p3, .cells #[.string sa, .int .i64 4, .int .i64 0, .int .i64 0, .string s0] 72 (0, 0)), (p2, .cells #[.int .i64 4, .int .i64 0, .int .i64 0, .string s0] 32 (0, 0)), (p1, .cells #[.int .i64 2, .int .i64 2, .int .i64 1, .int .i64 5] TCf (0, 0))] nil tt [] w14 := S
  have c_0 : w14.cell? ⟨p1, 0, none⟩ = some (.int .i64 2) := S.cell 8 0 rfl rfl
  have c_1 : w14.cell? ⟨p1, 1, none⟩ = some (.int .i64 2) := S.cell 8 1 rfl rfl
  have c_2 : w14.cell? ⟨p1, 2, none⟩ = some (.int .i64 1) := S.cell 8 2 rfl rfl
  have c_3 : w14.cell? ⟨p1, 3, none⟩ = some (.int .i64 5) := S.cell 8 3 rfl rfl
  have o_0 : w14.cell? ⟨p11, 0, none⟩ = some (.int .i64 2) := S.cell 1 0 rfl rfl
  have o_1 : w14.cell? ⟨p11, 1, none⟩ = some (.slice A11 1 e11) := S.cell 1 1 rfl rfl
  have o_2 : w14.cell? ⟨p11, 2, none⟩ = some (.bool false) := S.cell 1 2 rfl rfl
  have o_3 : w14.cell? ⟨p11, 3, none⟩ = some (.int .i64 0) := S.cell 1 3 rfl rfl
  have o_4 : w14.cell? ⟨p11, 4, none⟩ = some (.int .i64 10) := S.cell 1 4 rfl rfl
  have o_5 : w14.cell? ⟨p11, 5, none⟩ = some (.bool false) := S.cell 1 5 rfl rfl
  have o_6 : w14.cell? ⟨p11, 6, none⟩ = some (.int .i64 10) := S.cell 1 6 rfl rfl
  go_wp2_with fail
  refine (emit_kn (ok := fun _ => True) (by decide) (by decide) (by decide) (by decide) live_q ho hz).mono ?_
  rintro e w15 ⟨A15, e15, B15, d15, rfl, hV, hF, hb⟩
  replace S := S.below hb
  replace ht := Ft.below ht hb
  replace hl := Ft.below hl hb
  replace hm := Ft.below hm hb
  replace fm := Ft.below fm hb
  replace hn := Ft.below hn hb
  replace hz := Ft.below hz hb
  replace ho := Ft.below ho hb
  replace fo := Ft.below fo hb
  replace hp := Ft.below hp hb
  replace fp := Ft.below fp hb
  have hq := Ft.all hV
  clear hV
  have fq := Ft.all hF
  clear hF
  clear c_0 c_1 c_2 c_3 o_0 o_1 o_2 o_3 o_4 o_5 o_6 hb
  go_upto_region 11 with (fail)
  generalize hg : World.alloc _ _ = w16
  replace S := S.new hg
  have hbx : Below w15.heap.size w15 w16 := hg ▸ (by repeat (first | exact Below.refl _ _ | apply below_alloc))
  replace ht := Ft.below ht hbx
  replace hl := Ft.below hl hbx
  replace hm := Ft.below hm hbx
  replace fm := Ft.below fm hbx
  replace hn := Ft.below hn hbx
  replace hz := Ft.below hz hbx
  replace ho := Ft.below ho hbx
  replace fo := Ft.below fo hbx
  replace hp := Ft.below hp hbx
  replace fp := Ft.below fp hbx
  replace hq := Ft.below hq hbx
  replace fq := Ft.below fq hbx
  clear hbx
  clear hg
  generalize w15.heap.size = p15 at S ⊢
  replace S : Kn ok w0 [(p15, .cells #[.int .i64 4, .slice A15 0 e15, .bool false, .int .i64 0, .int .i64 16, .bool false, .int .i64 16] TLk (0, 0)), (p13, .cells #[.int .i64 2, .slice A13 1 e13, .bool false, .int .i64 0, .int .i64 10, .bool false, .int .i64 10] TLk (0, 0)), (p11, .cells #[.int .i64 2, .slice A11 1 e11, .bool false, .int .i64 0, .int .i64 10, .bool false, .int .i64 10] TLk (0, 0)), (p10, .cells #[.int .i64 1, .slice A10 2 e10, .bool false, .int .i64 1, .int .i64 10, .bool false, .int .i64 10] TLk (0, 0)), (p8, .cells #[.int .i64 1, .slice A8 0 e8, .bool false, .int .i64 1, .int .i64 10, .bool false, .int .i64 10] TLk (0, 0)), (p6, .cells #[.int .i64 0, .slice A6 0 e6, .bool false, .int .i64 0, .int .i64 0, .bool false, .int .i64 0] TLk (0, 0)), (p4, .cells #[.int .i64 0, .slice A4 0 e4, .bool false, .int .i64 2, .int .i64 10, .bool true, .int .i64 10] TLk (0, 0)), (p3, .cells #[.string sa, .int .i64 4, .int .i64 0, .int .i64 0, .string s0] 72 (0, 0)), (p2, .cells #[.int .i64 4, .int .i64 0, .int .i64 0, .string s0] 32 (0, 0)), (p1, .cells #[.int .i64 2, .int .i64 2, .int .i64 1, .int .i64 5] TCf (0, 0))] nil tt [] w16 := S
  have c_0 : w16.cell? ⟨p1, 0, none⟩ = some (.int .i64 2) := S.cell 9 0 rfl rfl
  have c_1 : w16.cell? ⟨p1, 1, none⟩ = some (.int .i64 2) := S.cell 9 1 rfl rfl
  have c_2 : w16.cell? ⟨p1, 2, none⟩ = some (.int .i64 1) := S.cell 9 2 rfl rfl
  have c_3 : w16.cell? ⟨p1, 3, none⟩ = some (.int .i64 5) := S.cell 9 3 rfl rfl
  have n_0 : w16.cell? ⟨p10, 0, none⟩ = some (.int .i64 1) := S.cell 3 0 rfl rfl
  have n_1 : w16.cell? ⟨p10, 1, none⟩ = some (.slice A10 2 e10) := S.cell 3 1 rfl rfl
  have n_2 : w16.cell? ⟨p10, 2, none⟩ = some (.bool false) := S.cell 3 2 rfl rfl
  have n_3 : w16.cell? ⟨p10, 3, none⟩ = some (.int .i64 1) := S.cell 3 3 rfl rfl
  have n_4 : w16.cell? ⟨p10, 4, none⟩ = some (.int .i64 10) := S.cell 3 4 rfl rfl
  have n_5 : w16.cell? ⟨p10, 5, none⟩ = some (.bool false) := S.cell 3 5 rfl rfl
  have n_6 : w16.cell? ⟨p10, 6, none⟩ = some (.int .i64 10) := S.cell 3 6 rfl rfl
  go_wp2_with fail
  refine (push_kn (ok := fun _ => True) (chg sc) (by decide) live_r hn).mono ?_
  rintro e w17 ⟨A17, e17, rfl, hV, hb⟩
  replace S := S.below hb
  replace ht := Ft.below ht hb
  replace hl := Ft.below hl hb
  replace hm := Ft.below hm hb
  replace fm := Ft.below fm hb
  replace hn := Ft.below hn hb
  replace hz := Ft.below hz hb
  replace ho := Ft.below ho hb
  replace fo := Ft.below fo hb
  replace hp := Ft.below hp hb
  replace fp := Ft.below fp hb
  replace hq := Ft.below hq hb
  replace fq := Ft.below fq hb
  have hr := Ft.all hV
  clear hV
  clear c_0 c_1 c_2 c_3 n_0 n_1 n_2 n_3 n_4 n_5 n_6 hb
  go_upto_region 12 with (fail)
  generalize hg : World.alloc _ _ = w18
  replace S := S.new hg
  have hbx : Below w17.heap.size w17 w18 := hg ▸ (by repeat (first | exact Below.refl _ _ | apply below_alloc))
  replace ht := Ft.below ht hbx
  replace hl := Ft.below hl hbx
  replace hm := Ft.below hm hbx
  replace fm := Ft.below fm hbx
  replace hn := Ft.below hn hbx
  replace hz := Ft.below hz hbx
  replace ho := Ft.below ho hbx
  replace fo := Ft.below fo hbx
  replace hp := Ft.below hp hbx
  replace fp := Ft.below fp hbx
  replace hq := Ft.below hq hbx
  replace fq := Ft.below fq hbx
  replace hr := Ft.below hr hbx
  clear hbx
  clear hg
  generalize w17.heap.size = p17 at S ⊢
  replace S : Kn ok w0 [(p17, .cells #[.int .i64 1, .slice A17 0 e17, .bool false, .int .i64 1, .int .i64 10, .bool true, .int .i64 10] TLk (0, 0)), (p15, .cells #[.int .i64 4, .slice A15 0 e15, .bool false, .int .i64 0, .int .i64 16, .bool false, .int .i64 16] TLk (0, 0)), (p13, .cells #[.int .i64 2, .slice A13 1 e13, .bool false, .int .i64 0, .int .i64 10, .bool false, .int .i64 10] TLk (0, 0)), (p11, .cells #[.int .i64 2, .slice A11 1 e11, .bool false, .int .i64 0, .int .i64 10, .bool false, .int .i64 10] TLk (0, 0)), (p10, .cells #[.int .i64 1, .slice A10 2 e10, .bool false, .int .i64 1, .int .i64 10, .bool false, .int .i64 10] TLk (0, 0)), (p8, .cells #[.int .i64 1, .slice A8 0 e8, .bool false, .int .i64 1, .int .i64 10, .bool false, .int .i64 10] TLk (0, 0)), (p6, .cells #[.int .i64 0, .slice A6 0 e6, .bool false, .int .i64 0, .int .i64 0, .bool false, .int .i64 0] TLk (0, 0)), (p4, .cells #[.int .i64 0, .slice A4 0 e4, .bool false, .int .i64 2, .int .i64 10, .bool true, .int .i64 10] TLk (0, 0)), (p3, .cells #[.string sa, .int .i64 4, .int .i64 0, .int .i64 0, .string s0] 72 (0, 0)), (p2, .cells #[.int .i64 4, .int .i64 0, .int .i64 0, .string s0] 32 (0, 0)), (p1, .cells #[.int .i64 2, .int .i64 2, .int .i64 1, .int .i64 5] TCf (0, 0))] nil tt [] w18 := S
  clear ht hl hm hn hr hz
  have c_0 : w18.cell? ⟨p1, 0, none⟩ = some (.int .i64 2) := S.cell 10 0 rfl rfl
  have c_1 : w18.cell? ⟨p1, 1, none⟩ = some (.int .i64 2) := S.cell 10 1 rfl rfl
  have c_2 : w18.cell? ⟨p1, 2, none⟩ = some (.int .i64 1) := S.cell 10 2 rfl rfl
  have c_3 : w18.cell? ⟨p1, 3, none⟩ = some (.int .i64 5) := S.cell 10 3 rfl rfl
  have l_5 : w18.cell? ⟨p4, 5, none⟩ = some (.bool true) := S.cell 7 5 rfl rfl
  have m_0 : w18.cell? ⟨p8, 0, none⟩ = some (.int .i64 1) := S.cell 5 0 rfl rfl
  have m_5 : w18.cell? ⟨p8, 5, none⟩ = some (.bool false) := S.cell 5 5 rfl rfl
  have o_0 : w18.cell? ⟨p11, 0, none⟩ = some (.int .i64 2) := S.cell 3 0 rfl rfl
  have o_1 : w18.cell? ⟨p11, 1, none⟩ = some (.slice A11 1 e11) := S.cell 3 1 rfl rfl
  have o_2 : w18.cell? ⟨p11, 2, none⟩ = some (.bool false) := S.cell 3 2 rfl rfl
  have o_3 : w18.cell? ⟨p11, 3, none⟩ = some (.int .i64 0) := S.cell 3 3 rfl rfl
  have o_4 : w18.cell? ⟨p11, 4, none⟩ = some (.int .i64 10) := S.cell 3 4 rfl rfl
  have o_5 : w18.cell? ⟨p11, 5, none⟩ = some (.bool false) := S.cell 3 5 rfl rfl
  have o_6 : w18.cell? ⟨p11, 6, none⟩ = some (.int .i64 10) := S.cell 3 6 rfl rfl
  have p_0 : w18.cell? ⟨p13, 0, none⟩ = some (.int .i64 2) := S.cell 2 0 rfl rfl
  have p_1 : w18.cell? ⟨p13, 1, none⟩ = some (.slice A13 1 e13) := S.cell 2 1 rfl rfl
  have p_2 : w18.cell? ⟨p13, 2, none⟩ = some (.bool false) := S.cell 2 2 rfl rfl
  have p_3 : w18.cell? ⟨p13, 3, none⟩ = some (.int .i64 0) := S.cell 2 3 rfl rfl
  have p_4 : w18.cell? ⟨p13, 4, none⟩ = some (.int .i64 10) := S.cell 2 4 rfl rfl
  have p_5 : w18.cell? ⟨p13, 5, none⟩ = some (.bool false) := S.cell 2 5 rfl rfl
  have p_6 : w18.cell? ⟨p13, 6, none⟩ = some (.int .i64 10) := S.cell 2 6 rfl rfl
  have q_0 : w18.cell? ⟨p15, 0, none⟩ = some (.int .i64 4) := S.cell 1 0 rfl rfl
  have q_1 : w18.cell? ⟨p15, 1, none⟩ = some (.slice A15 0 e15) := S.cell 1 1 rfl rfl
  have q_2 : w18.cell? ⟨p15, 2, none⟩ = some (.bool false) := S.cell 1 2 rfl rfl
  have q_3 : w18.cell? ⟨p15, 3, none⟩ = some (.int .i64 0) := S.cell 1 3 rfl rfl
  have q_4 : w18.cell? ⟨p15, 4, none⟩ = some (.int .i64 16) := S.cell 1 4 rfl rfl
  have q_5 : w18.cell? ⟨p15, 5, none⟩ = some (.bool false) := S.cell 1 5 rfl rfl
  have q_6 : w18.cell? ⟨p15, 6, none⟩ = some (.int .i64 16) := S.cell 1 6 rfl rfl
  have r_1 : w18.cell? ⟨p17, 1, none⟩ = some (.slice A17 0 e17) := S.cell 0 1 rfl rfl
  have r_5 : w18.cell? ⟨p17, 5, none⟩ = some (.bool true) := S.cell 0 5 rfl rfl
  obtain ⟨ax, Ax, cx, hex, x0, x1, x2, x3, x4, x5, x6, x7, x8, x9, hcx, hkx⟩ := at_T60 (Kd.V_reads' (e := 0) (base := 0) fm).2.2 ((0 : Nat) : Int) (by decide) (by decide)
  clear hcx hkx
  rw [Int.toNat_natCast] at x0 x1 x2 x3 x4 x5 x6 x7 x8 x9
  simp only [show ∀ l : List Fr, rd_T60 (fr1 :: l) ((0 : Nat) : Int) = fr1 from fun _ => rfl, show ∀ (a : Fr) (l : List Fr), rd_T60 (a :: fr1 :: l) ((1 : Nat) : Int) = fr1 from fun _ _ => rfl, Nat.zero_mul, Nat.one_mul, add0, add10] at x0 x1 x2 x3 x4 x5 x6 x7 x8 x9
  clear x1 x2 x3 x4 x5 x6 x7 x8
  subst hex
  obtain ⟨ay, Ay, cy, hey, y0, y1, y2, y3, y4, y5, y6, y7, y8, y9, hcy, hky⟩ := at_T60 (Kd.V_reads' (e := 0) (base := 0) fo).2.2 ((0 : Nat) : Int) (by decide) (by decide)
  clear hcy hky
  rw [Int.toNat_natCast] at y0 y1 y2 y3 y4 y5 y6 y7 y8 y9
  simp only [show ∀ l : List Fr, rd_T60 (fr2 :: l) ((0 : Nat) : Int) = fr2 from fun _ => rfl, show ∀ (a : Fr) (l : List Fr), rd_T60 (a :: fr2 :: l) ((1 : Nat) : Int) = fr2 from fun _ _ => rfl, Nat.zero_mul, Nat.one_mul, add0, add10] at y0 y1 y2 y3 y4 y5 y6 y7 y8 y9
  clear y2 y4 y5 y6 y7 y8 y9
  subst hey
  obtain ⟨az, Az, cz, hez, z0, z1, z2, z3, z4, z5, z6, z7, z8, z9, hcz, hkz⟩ := at_T60 (Kd.V_reads' (e := 0) (base := 0) fq).2.2 ((0 : Nat) : Int) (by decide) (by decide)
  clear hcz hkz
  rw [Int.toNat_natCast] at z0 z1 z2 z3 z4 z5 z6 z7 z8 z9
  simp only [show ∀ l : List Fr, rd_T60 (fr3 :: l) ((0 : Nat) : Int) = fr3 from fun _ => rfl, show ∀ (a : Fr) (l : List Fr), rd_T60 (a :: fr3 :: l) ((1 : Nat) : Int) = fr3 from fun _ _ => rfl, Nat.zero_mul, Nat.one_mul, add0, add10] at z0 z1 z2 z3 z4 z5 z6 z7 z8 z9
  clear z0 z1 z2 z4 z5 z6 z7 z8 z9
  obtain ⟨av, Av, cv, hev, v0, v1, v2, v3, v4, v5, v6, v7, v8, v9, hcv, hkv⟩ := at_T60 (Kd.V_reads' (e := 0) (base := 0) fq).2.2 ((1 : Nat) : Int) (by decide) (by decide)
  clear hcv hkv
  rw [Int.toNat_natCast] at v0 v1 v2 v3 v4 v5 v6 v7 v8 v9
  simp only [show ∀ l : List Fr, rd_T60 (fr4 :: l) ((0 : Nat) : Int) = fr4 from fun _ => rfl, show ∀ (a : Fr) (l : List Fr), rd_T60 (a :: fr4 :: l) ((1 : Nat) : Int) = fr4 from fun _ _ => rfl, Nat.zero_mul, Nat.one_mul, add0, add10] at v0 v1 v2 v3 v4 v5 v6 v7 v8 v9
  clear v2 v3 v4 v5 v6 v7 v8 v9
  obtain rfl : az = av := Option.some.inj (hez.symm.trans hev)
  subst hez
  clear hev
  clear fm fo fp fq
  have hzc : ∀ w : World, (V kCh (.slice none 0 0) []).P w (fun _ => True) := fun w => V_any (Kd.V_nil kCh 0 w 0 _)
  go_wp2_with fail
  refine (rollcallref18_Same.kn 1100 (same18 1100 2 [chg sb] false 0 10 false 10 (by decide) (by decide)) ho hp).mono ?_
  rintro e w19 ⟨rfl, hb⟩
  replace c_0 := pw_cell_below hb c_0
  replace c_1 := pw_cell_below hb c_1
  replace c_2 := pw_cell_below hb c_2
  replace c_3 := pw_cell_below hb c_3
  replace l_5 := pw_cell_below hb l_5
  replace m_0 := pw_cell_below hb m_0
  replace m_5 := pw_cell_below hb m_5
  replace o_0 := pw_cell_below hb o_0
  replace o_1 := pw_cell_below hb o_1
  replace o_2 := pw_cell_below hb o_2
  replace o_3 := pw_cell_below hb o_3
  replace o_4 := pw_cell_below hb o_4
  replace o_5 := pw_cell_below hb o_5
  replace o_6 := pw_cell_below hb o_6
  replace p_0 := pw_cell_below hb p_0
  replace p_1 := pw_cell_below hb p_1
  replace p_2 := pw_cell_below hb p_2
  replace p_3 := pw_cell_below hb p_3
  replace p_4 := pw_cell_below hb p_4
  replace p_5 := pw_cell_below hb p_5
  replace p_6 := pw_cell_below hb p_6
  replace q_0 := pw_cell_below hb q_0
  replace q_1 := pw_cell_below hb q_1
  replace q_2 := pw_cell_below hb q_2
  replace q_3 := pw_cell_below hb q_3
  replace q_4 := pw_cell_below hb q_4
  replace q_5 := pw_cell_below hb q_5
  replace q_6 := pw_cell_below hb q_6
  replace r_1 := pw_cell_below hb r_1
  replace r_5 := pw_cell_below hb r_5
  replace z3 := pw_cell_below hb z3
  replace v0 := pw_cell_below hb v0
  replace v1 := pw_cell_below hb v1
  replace ho := Ft.below ho hb
  replace hp := Ft.below hp hb
  replace hq := Ft.below hq hb
  replace S := S.below hb
  clear hb
  go_wp2_with fail
  refine (link_Quiet.kn (show link_Quiet.f 4 [] false 0 16 false 16 = some true from rfl) hq).mono ?_
  rintro e w20 ⟨rfl, hb⟩
  replace c_0 := pw_cell_below hb c_0
  replace c_1 := pw_cell_below hb c_1
  replace c_2 := pw_cell_below hb c_2
  replace c_3 := pw_cell_below hb c_3
  replace l_5 := pw_cell_below hb l_5
  replace m_0 := pw_cell_below hb m_0
  replace m_5 := pw_cell_below hb m_5
  replace o_0 := pw_cell_below hb o_0
  replace o_1 := pw_cell_below hb o_1
  replace o_2 := pw_cell_below hb o_2
  replace o_3 := pw_cell_below hb o_3
  replace o_4 := pw_cell_below hb o_4
  replace o_5 := pw_cell_below hb o_5
  replace o_6 := pw_cell_below hb o_6
  replace p_0 := pw_cell_below hb p_0
  replace p_1 := pw_cell_below hb p_1
  replace p_2 := pw_cell_below hb p_2
  replace p_3 := pw_cell_below hb p_3
  replace p_4 := pw_cell_below hb p_4
  replace p_5 := pw_cell_below hb p_5
  replace p_6 := pw_cell_below hb p_6
  replace q_0 := pw_cell_below hb q_0
  replace q_1 := pw_cell_below hb q_1
  replace q_2 := pw_cell_below hb q_2
  replace q_3 := pw_cell_below hb q_3
  replace q_4 := pw_cell_below hb q_4
  replace q_5 := pw_cell_below hb q_5
  replace q_6 := pw_cell_below hb q_6
  replace r_1 := pw_cell_below hb r_1
  replace r_5 := pw_cell_below hb r_5
  replace z3 := pw_cell_below hb z3
  replace v0 := pw_cell_below hb v0
  replace v1 := pw_cell_below hb v1
  replace ho := Ft.below ho hb
  replace hp := Ft.below hp hb
  replace hq := Ft.below hq hb
  replace S := S.below hb
  clear hb
  go_wp2_with fail
  refine (link_Quiet.kn (show link_Quiet.f 2 [chg sb] false 0 10 false 10 = some false from rfl) ho).mono ?_
  rintro e w21 ⟨rfl, hb⟩
  replace c_0 := pw_cell_below hb c_0
  replace c_1 := pw_cell_below hb c_1
  replace c_2 := pw_cell_below hb c_2
  replace c_3 := pw_cell_below hb c_3
  replace l_5 := pw_cell_below hb l_5
  replace m_0 := pw_cell_below hb m_0
  replace m_5 := pw_cell_below hb m_5
  replace o_0 := pw_cell_below hb o_0
  replace o_1 := pw_cell_below hb o_1
  replace o_2 := pw_cell_below hb o_2
  replace o_3 := pw_cell_below hb o_3
  replace o_4 := pw_cell_below hb o_4
  replace o_5 := pw_cell_below hb o_5
  replace o_6 := pw_cell_below hb o_6
  replace p_0 := pw_cell_below hb p_0
  replace p_1 := pw_cell_below hb p_1
  replace p_2 := pw_cell_below hb p_2
  replace p_3 := pw_cell_below hb p_3
  replace p_4 := pw_cell_below hb p_4
  replace p_5 := pw_cell_below hb p_5
  replace p_6 := pw_cell_below hb p_6
  replace q_0 := pw_cell_below hb q_0
  replace q_1 := pw_cell_below hb q_1
  replace q_2 := pw_cell_below hb q_2
  replace q_3 := pw_cell_below hb q_3
  replace q_4 := pw_cell_below hb q_4
  replace q_5 := pw_cell_below hb q_5
  replace q_6 := pw_cell_below hb q_6
  replace r_1 := pw_cell_below hb r_1
  replace r_5 := pw_cell_below hb r_5
  replace z3 := pw_cell_below hb z3
  replace v0 := pw_cell_below hb v0
  replace v1 := pw_cell_below hb v1
  replace ho := Ft.below ho hb
  replace hp := Ft.below hp hb
  replace hq := Ft.below hq hb
  replace S := S.below hb
  clear hb
  go_wp2_with fail
  refine (link_May.kn 200 live_x hq).mono ?_
  rintro e w22 ⟨rfl, hb⟩
  replace c_0 := pw_cell_below hb c_0
  replace c_1 := pw_cell_below hb c_1
  replace c_2 := pw_cell_below hb c_2
  replace c_3 := pw_cell_below hb c_3
  replace l_5 := pw_cell_below hb l_5
  replace m_0 := pw_cell_below hb m_0
  replace m_5 := pw_cell_below hb m_5
  replace o_0 := pw_cell_below hb o_0
  replace o_1 := pw_cell_below hb o_1
  replace o_2 := pw_cell_below hb o_2
  replace o_3 := pw_cell_below hb o_3
  replace o_4 := pw_cell_below hb o_4
  replace o_5 := pw_cell_below hb o_5
  replace o_6 := pw_cell_below hb o_6
  replace p_0 := pw_cell_below hb p_0
  replace p_1 := pw_cell_below hb p_1
  replace p_2 := pw_cell_below hb p_2
  replace p_3 := pw_cell_below hb p_3
  replace p_4 := pw_cell_below hb p_4
  replace p_5 := pw_cell_below hb p_5
  replace p_6 := pw_cell_below hb p_6
  replace q_0 := pw_cell_below hb q_0
  replace q_1 := pw_cell_below hb q_1
  replace q_2 := pw_cell_below hb q_2
  replace q_3 := pw_cell_below hb q_3
  replace q_4 := pw_cell_below hb q_4
  replace q_5 := pw_cell_below hb q_5
  replace q_6 := pw_cell_below hb q_6
  replace r_1 := pw_cell_below hb r_1
  replace r_5 := pw_cell_below hb r_5
  replace z3 := pw_cell_below hb z3
  replace v0 := pw_cell_below hb v0
  replace v1 := pw_cell_below hb v1
  replace ho := Ft.below ho hb
  replace hp := Ft.below hp hb
  replace hq := Ft.below hq hb
  replace S := S.below hb
  clear hb
  go_wp2_with fail
  refine (link_May.kn 200 live_y (hzc _)).mono ?_
  rintro e w23 ⟨rfl, hb⟩
  replace c_0 := pw_cell_below hb c_0
  replace c_1 := pw_cell_below hb c_1
  replace c_2 := pw_cell_below hb c_2
  replace c_3 := pw_cell_below hb c_3
  replace l_5 := pw_cell_below hb l_5
  replace m_0 := pw_cell_below hb m_0
  replace m_5 := pw_cell_below hb m_5
  replace o_0 := pw_cell_below hb o_0
  replace o_1 := pw_cell_below hb o_1
  replace o_2 := pw_cell_below hb o_2
  replace o_3 := pw_cell_below hb o_3
  replace o_4 := pw_cell_below hb o_4
  replace o_5 := pw_cell_below hb o_5
  replace o_6 := pw_cell_below hb o_6
  replace p_0 := pw_cell_below hb p_0
  replace p_1 := pw_cell_below hb p_1
  replace p_2 := pw_cell_below hb p_2
  replace p_3 := pw_cell_below hb p_3
  replace p_4 := pw_cell_below hb p_4
  replace p_5 := pw_cell_below hb p_5
  replace p_6 := pw_cell_below hb p_6
  replace q_0 := pw_cell_below hb q_0
  replace q_1 := pw_cell_below hb q_1
  replace q_2 := pw_cell_below hb q_2
  replace q_3 := pw_cell_below hb q_3
  replace q_4 := pw_cell_below hb q_4
  replace q_5 := pw_cell_below hb q_5
  replace q_6 := pw_cell_below hb q_6
  replace r_1 := pw_cell_below hb r_1
  replace r_5 := pw_cell_below hb r_5
  replace z3 := pw_cell_below hb z3
  replace v0 := pw_cell_below hb v0
  replace v1 := pw_cell_below hb v1
  replace ho := Ft.below ho hb
  replace hp := Ft.below hp hb
  replace hq := Ft.below hq hb
  replace S := S.below hb
  clear hb
  go_wp2
  go_ret
  exact ⟨rfl, S.bel⟩
theorem live_walk (w : World) : Calls Try.prog 11 #[] w fun e w' => e = .returned (.bool true) ∧ Below w.heap.size w w' := live_go (fun _ => True) w w (Kn.start _ w)
end Go.Proofs.Ytmigglldahkngaa.XTell
end

section
/- What came in and reads as data is of its kind: a law's arguments of whatever type (numbers, bools, texts, slices, structs, arrays of these, one in the other), opened by their kinds. -/

namespace Go.Proofs.Ytmigglldahkngaa.XOpen
open Go.RowKit Go.ChangeShapes Go.WideShapes Go.Deep Go.Proofs.YtmigglldahkngaaW.PrintWords Go.Proofs.YtmigglldahkngaaW.PrintLast Go.Proofs.YtmigglldahkngaaW.PrintMore
set_option linter.unusedVariables false
set_option linter.unusedSimpArgs false

/-- Whatever reads as data at type t is of kind d, and within its bounds. -/
def Opens (P : Program) (t : TypeId) {α : Type} (d : Kd α) (Ok : α → Prop) : Prop :=
 ∀ {H : Type} (enc : TypeId × Value → H) (w : World) (base : Nat) (spare : Nat → Bool) (held : Bool) (fuel : Nat) (cs : List Value) (x : DataW H × List MemPlace),
  DataW.trod enc P w base spare held fuel t cs = some x → ∃ a, d.K w a cs ∧ Ok a
/-- The same of a struct's fields (an array's elements), one behind the other. -/
def OpensL (P : Program) (ts : List TypeId) {α : Type} (d : Kd α) (Ok : α → Prop) : Prop :=
 ∀ {H : Type} (enc : TypeId × Value → H) (w : World) (base : Nat) (spare : Nat → Bool) (held : Bool) (fuel : Nat) (css : List (List Value)),
  css.length = ts.length → (∀ (j : Nat) (t : TypeId) (cs : List Value), ts[j]? = some t → css[j]? = some cs → ∃ x : DataW H × List MemPlace, DataW.trod enc P w base spare held fuel t cs = some x) → ∃ a, d.K w a css.flatten ∧ Ok a
section
variable {P : Program} {t e : TypeId}
theorem Opens.int {k : IntKind} (ht : P.underlying t = some (.int k)) : Opens P t (Kd.int k) (fun n => (Lit.int k n).wf = true) := by
 intro H enc w base spare held fuel cs x h
 obtain ⟨n, rfl, _, hw⟩ := DataW.trod_int ht h
 exact ⟨n, rfl, hw⟩
theorem Opens.bool (ht : P.underlying t = some .bool) : Opens P t Kd.bool (fun _ => True) := by
 intro H enc w base spare held fuel cs x h
 obtain ⟨n, rfl, _⟩ := DataW.trod_bool ht h
 exact ⟨n, rfl, trivial⟩
theorem Opens.string (ht : P.underlying t = some .string) : Opens P t Kd.string (fun s => s.size ≤ maxLen) := by
 intro H enc w base spare held fuel cs x h
 obtain ⟨s, rfl, _, hw⟩ := DataW.trod_string ht h
 exact ⟨s, rfl, hw⟩
theorem Opens.slice {α : Type} {d : Kd α} {Ok : α → Prop} (ht : P.underlying t = some (.slice e)) (hc : P.cellsOf e = d.sz) (z : α) (hd : Opens P e d Ok) : Opens P t (Kd.slice e d) (fun l => l.length ≤ maxLen ∧ ∀ a ∈ l, Ok a) := by
 intro H enc w base spare held fuel cs x h
 rcases open_slice ht h with ⟨rfl, _⟩ | ⟨a, len, cap, m, n, D, Pl, rfl, hb, hl, hm, hmm, _, hx⟩
 ·exact ⟨[], ⟨none, 0, rfl, Nat.le_refl _, ⟨rfl, Nat.zero_le _, fun h => absurd h (Nat.lt_irrefl _)⟩⟩, Nat.zero_le _, fun a ha => by cases ha⟩
 ·have hlm : len ≤ m := by rw [hmm]; split <;> omega
  have : Inhabited α := ⟨z⟩
  obtain ⟨f, hf⟩ := choose_lt (α := α) (n := len) (p := fun i a' => ∃ cs', w.cells? base (a.add (i * d.sz)) d.sz = some cs' ∧ d.K w a' cs' ∧ Ok a') (fun i hi => by
   obtain ⟨cs', h1, h2⟩ := hx i (by omega)
   obtain ⟨a', h3, h4⟩ := hd enc w base spare held n cs' _ h2
   rw [hc] at h1
   exact ⟨a', cs', h1, h3, h4⟩)
  refine ⟨(List.range len).map f, ⟨some a, cap, by simp, by simpa using hl, ?_⟩, by simp; omega, ?_⟩
  ·refine ⟨by simp, by simp; unfold maxLen at hm; omega, fun _ => ⟨a, rfl, fun j p hj => ?_⟩⟩
   have hjl : j < len := by
    have := (List.getElem?_eq_some_iff.1 hj).1
    simpa using this
   have hp : f j = p := by simpa [List.getElem?_map, hjl] using hj
   subst hp
   obtain ⟨cs', h1, h2, _⟩ := hf j hjl
   obtain ⟨_, h3, h4⟩ := World.cells?_some h1
   refine ⟨cs', h3, h2, fun i u hi => ?_⟩
   have hil : i < d.sz := by rw [← h3]; exact (List.getElem?_eq_some_iff.1 hi).1
   rw [← Go.Deep.add_add, h4 i hil, hi]
  ·intro b hb'
   obtain ⟨j, hj, rfl⟩ := List.mem_map.1 hb'
   obtain ⟨_, _, _, h⟩ := hf j (by simpa using hj)
   exact h
theorem OpensL.one {α : Type} {d : Kd α} {Ok : α → Prop} (h : Opens P t d Ok) : OpensL P [t] d Ok := by
 intro H enc w base spare held fuel css hl hx
 match css, hl with
 | [cs], _ =>
  obtain ⟨x, h1⟩ := hx 0 t cs rfl rfl
  obtain ⟨a, h2⟩ := h enc w base spare held fuel cs x h1
  exact ⟨a, by simpa using h2⟩
theorem OpensL.cons {ts : List TypeId} {α β : Type} {d : Kd α} {Ok : α → Prop} {d2 : Kd β} {Ok2 : β → Prop} (h : Opens P t d Ok) (h2 : OpensL P ts d2 Ok2) : OpensL P (t :: ts) (Kd.pair d d2) (fun x => Ok x.1 ∧ Ok2 x.2) := by
 intro H enc w base spare held fuel css hl hx
 match css, hl with
 | cs :: css, hl =>
  obtain ⟨x, h1⟩ := hx 0 t cs rfl rfl
  obtain ⟨a, h3, h4⟩ := h enc w base spare held fuel cs x h1
  obtain ⟨b, h5, h6⟩ := h2 enc w base spare held fuel css (by simpa using hl) (fun j t' cs' hj hj' => hx (j + 1) t' cs' (by simpa using hj) (by simpa using hj'))
  exact ⟨(a, b), ⟨cs, css.flatten, rfl, h3, h5⟩, h4, h6⟩
theorem Opens.iso {α β : Type} {d : Kd α} {Ok : α → Prop} (h : Opens P t d Ok) (f : β → α) (g : α → β) (hfg : ∀ a, f (g a) = a) : Opens P t (Kd.iso d f) (fun b => Ok (f b)) := by
 intro H enc w base spare held fuel cs x hx
 obtain ⟨a, h1, h2⟩ := h enc w base spare held fuel cs x hx
 exact ⟨g a, by show d.K w (f (g a)) cs; rw [hfg]; exact h1, by show Ok (f (g a)); rw [hfg]; exact h2⟩
/-- Cells, cut at the fields. -/
def cuts (cs : List Value) : List Nat → List (List Value)
 | [] => []
 | n :: ns => cs.take n :: cuts (cs.drop n) ns
theorem cuts_len : ∀ (cs : List Value) (ns : List Nat), (cuts cs ns).length = ns.length
 | _, [] => rfl
 | cs, n :: ns => by simp [cuts, cuts_len]
theorem cuts_flat : ∀ (cs : List Value) (ns : List Nat), cs.length = ns.sum → (cuts cs ns).flatten = cs
 | cs, [], h => by
  have : cs = [] := List.length_eq_zero_iff.1 (by simpa using h)
  simp [cuts, this]
 | cs, n :: ns, h => by
  simp only [List.sum_cons] at h
  simp only [cuts, List.flatten_cons]
  rw [cuts_flat (cs.drop n) ns (by rw [List.length_drop]; omega), List.take_append_drop]
theorem cuts_get : ∀ (cs : List Value) (ns : List Nat) (j : Nat) (n : Nat), ns[j]? = some n → (cuts cs ns)[j]? = some ((cs.drop (ns.take j).sum).take n)
 | _, [], _, _, h => by simp at h
 | cs, m :: ns, 0, n, h => by
  have : m = n := by simpa using h
  subst this
  simp [cuts]
 | cs, m :: ns, j + 1, n, h => by
  have := cuts_get (cs.drop m) ns j n (by simpa using h)
  simp only [cuts, List.getElem?_cons_succ, this, List.take_succ_cons, List.sum_cons, List.drop_drop]
theorem Opens.struct {α : Type} {d : Kd α} {Ok : α → Prop} {fs : Array Field} (ts : List TypeId) (ns : List Nat) (ht : P.underlying t = some (.struct fs)) (hts : fs.toList.map (·.type) = ts) (hns : ts.map P.cellsOf = ns) (hof : fs.toList.map (·.offset) = (List.range ns.length).map fun j => (ns.take j).sum) (hC : P.cellsOf t = ns.sum) (h : OpensL P ts d Ok) : Opens P t d Ok := by
 intro H enc w base spare held fuel cs x hx
 obtain ⟨xs, n, _, _, hl, hxs, hf⟩ := DataW.trod_struct ht hx
 have hlen : ts.length = fs.size := by rw [← hts]; simp
 have hlen2 : ns.length = ts.length := by rw [← hns]; simp
 obtain ⟨a, h1, h2⟩ := h enc w base spare held n (cuts cs ns) (by rw [cuts_len, hlen2]) (fun j t' cs' hj hj' => by
  have hjt : j < ts.length := (List.getElem?_eq_some_iff.1 hj).1
  have hjf : fs[j]? = some (fs[j]'(by omega)) := Array.getElem?_eq_getElem (by omega)
  have e1 : (fs[j]'(by omega)).type = t' := by
   have : (fs.toList.map (·.type))[j]? = some t' := by rw [hts]; exact hj
   simpa [List.getElem?_map, hjf] using this
  have e2 : ns[j]? = some (P.cellsOf t') := by rw [← hns, List.getElem?_map, hj]; rfl
  have e3 : (fs[j]'(by omega)).offset = (ns.take j).sum := by
   have : (fs.toList.map (·.offset))[j]? = ((List.range ns.length).map fun j => (ns.take j).sum)[j]? := by rw [hof]
   simpa [List.getElem?_map, hjf, show j < ns.length by omega] using this
  have h3 := hf j _ hjf
  rw [e1, e3] at h3
  rw [cuts_get cs ns j _ e2] at hj'
  injection hj' with hj'
  rw [hj'] at h3
  exact ⟨xs[j]'(by omega), by rw [h3]; exact List.getElem?_eq_getElem (by omega)⟩)
 rw [cuts_flat cs ns (by rw [hl, hC])] at h1
 exact ⟨a, h1, h2⟩
end
end Go.Proofs.Ytmigglldahkngaa.XOpen
end

section
-- PRINTED BY print.sh 35421559b90ae4d0a3588c463048766b98c2df88dd9212a6774a882060cdf62d: not written by this session
-- PRINTED WORDS (module Derived/Print/Sized.lean): go-gate-2's, for the rows of laws over slices: an AI agent of Go's test side, Tue Nov 17 2026; no person has read it. Lean checks it.
namespace Go.Proofs.YtmigglldahkngaaW.PrintWords
open Go.ChangeShapes Go.WideShapes
end Go.Proofs.YtmigglldahkngaaW.PrintWords
end
