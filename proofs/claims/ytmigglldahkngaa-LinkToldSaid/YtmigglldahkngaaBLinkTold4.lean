-- Several texts in one, without what the law does not use (wip/tools/bundle.py).
import Derived.Test.YtmigglldahkngaaBLinkTold3

section
/- link's Emit, walked: what any link tells next. -/
namespace Go.Proofs.Ytmigglldahkngaa.XTell
open Go.RowKit Go.Proofs.YtmigglldahkngaaW.PrintWords Go.Proofs.YtmigglldahkngaaW.PrintLast Go.Proofs.YtmigglldahkngaaW.PrintMore Go.Proofs.Ytmigglldahkngaa.PA Go.Proofs.Ytmigglldahkngaa.XMem Go.Proofs.Ytmigglldahkngaa.XSum Go.Proofs.Ytmigglldahkngaa.XQuiet
open Go.Proofs.Ytmigglldahkngaa.XPace (TK take_calls Mem.new3)
set_option linter.unusedVariables false
set_option linter.unusedSimpArgs false
set_option maxRecDepth 100000
/-- A link that tells, and what it has told. -/
structure St where
 s : Int
 q : List Ch
 sn : Bool
 tok : Int
 at_ : Int
 dg : Int
 fs : List Fr
/-- What is told next. -/
def nextP (c3 now : Int) (t : List Se) (st : St) : Option (Fr × List Ch × Bool × Int) :=
 if st.sn = true then some (⟨3, st.s, false, ⟨#[]⟩, ⟨0, 0, 0, ⟨#[]⟩⟩, 0, t⟩, st.q, false, now) else
 match st.q with
 | x :: l => some (⟨1, st.s, x.f1, x.f0, ⟨x.f2.f0, x.f2.f1, x.f2.f2, x.f2.f3⟩, 0, []⟩, l, false, st.dg)
 | [] => if now - st.dg < c3 then none else some (⟨2, st.s, false, ⟨#[]⟩, ⟨0, 0, 0, ⟨#[]⟩⟩, sumB t, []⟩, [], false, now)
/-- All that is told. -/
def emitP (c0 c1 c2 c3 now : Int) (t : List Se) : Nat → St → Option St
 | 0, _ => none
 | k + 1, st => if st.s < 1099511627776 then
   if (TK c0 c1 c2 c3 st.tok st.at_ now).2.2 = true then
    match nextP c3 now t st with
    | none => some st
    | some (f, q, sn, dg) => emitP c0 c1 c2 c3 now t k ⟨st.s + 1, q, sn, (TK c0 c1 c2 c3 st.tok st.at_ now).1, (TK c0 c1 c2 c3 st.tok st.at_ now).2.1, dg, st.fs ++ [f]⟩
   else some st
  else some st
/-- A frame's cells. -/
abbrev FC (f : Fr) (v : Value) : List Value := [.int .i64 f.f0, .int .i64 f.f1, .bool f.f2, .string f.f3, .int .i64 f.f4.f0, .int .i64 f.f4.f1, .int .i64 f.f4.f2, .string f.f4.f3, .int .u64 f.f5, v]
set_option maxHeartbeats 1000000 in
theorem next_some (c0 c1 c2 c3 now : Int) (t : List Se) (s : Int) (q : List Ch) (sn : Bool) (tok at_ dg : Int) (fs : List Fr) (f : Fr) (q' : List Ch) (sn' : Bool) (dg' : Int) (hx : nextP c3 now t ⟨s, q, sn, tok, at_, dg, fs⟩ = some (f, q', sn', dg'))
  (A : Option Addr) (cc : Nat) (B : Option Addr) (mc : Nat) (p : Nat) (w0 w : World) (hB : Below w0.heap.size w0 w) (hp : w0.heap.size ≤ p) (hs0 : 0 ≤ s) (hs : s < 1099511627776) (h0 : 0 ≤ dg) (h1 : dg ≤ 1099511627776) (h2 : 0 ≤ now) (h3 : now ≤ 1099511627776)
  (k0 : Nat) (hl : t.length ≤ 40) (hm : digest_May.f k0 t = some true) (hz : ∀ x ∈ t, x.f0.size ≤ 9223372036854775807) (ok : Nat → Prop) (hok : ∀ k, ok k → k ≠ p) (hnew : ∀ k, w.heap.size ≤ k → ok k)
  (hv : Kd.V kCh 34 w 0 ok (.slice A q.length cc) q) (hvt : Kd.V kSe 72 w 0 ok (.slice B t.length mc) t)
  (tp : w.heap[p]? = some (.cells (tc s (.slice A q.length cc) false tok at_ sn dg c0 c1 c2 c3 (.slice B t.length mc) now) TT (0, 0))) :
  Calls Try.prog 52 #[.pointer (some ⟨p, 0, none⟩)] w fun e w' => ∃ (A' : Option Addr) (c' : Nat) (A'' : Option Addr) (n'' c'' : Nat), e = .returned (.tuple #[.agg (FC f (.slice A'' n'' c'')).toArray, .bool true]) ∧ Next w0 w w' p (tc (s + 1) (.slice A' q'.length c') false tok at_ sn' dg' c0 c1 c2 c3 (.slice B t.length mc) now) ∧ Kd.V kCh 34 w' 0 ok (.slice A' q'.length c') q' ∧ (∀ W, Kd.V kSe 72 W 0 ok (.slice B t.length mc) t → Kd.FK kFr W ok f (FC f (.slice A'' n'' c''))) := by
 have nilF : ∀ (W : World) (x : Fr), x.f6 = [] → Kd.FK kFr W ok x (FC x (.slice none 0 0)) := fun W x hx => by
  have hF := (Kd.V_at (Kd.V_nil kSe 72 W 0 ok)).2.2
  have := k60_mkF W ok x (A9 := none) (c9 := 0) (by rw [hx]; exact Nat.le_refl _) (by rw [hx]; exact hF)
  rw [hx] at this
  exact this
 unfold nextP at hx
 cases sn with
 | true =>
  rw [if_pos rfl] at hx
  simp only [Option.some.injEq, Prod.mk.injEq] at hx
  obtain ⟨rfl, rfl, rfl, rfl⟩ := hx
  refine (next_snap s A q.length cc tok at_ dg c0 c1 c2 c3 B t.length mc now p w0 w hB hp hs0 hs tp).mono ?_
  rintro e w' ⟨rfl, hN⟩
  refine ⟨A, cc, B, t.length, mc, rfl, hN, Kd.V_step hv (fun k ho hlt => hN.keep k hlt (hok k ho)), fun W hW => ?_⟩
  exact k60_mkF W ok (⟨3, s, false, ⟨#[]⟩, ⟨0, 0, 0, ⟨#[]⟩⟩, 0, t⟩ : Fr) (Kd.V_at hW).2.1 (Kd.V_at hW).2.2
 | false =>
  rw [if_neg (by simp)] at hx
  cases q with
  | cons x l =>
   simp only [Option.some.injEq, Prod.mk.injEq] at hx
   obtain ⟨rfl, rfl, rfl, rfl⟩ := hx
   refine (next_delta s A cc tok at_ dg c0 c1 c2 c3 B t.length mc now p w0 w hB hp hs0 hs x l ok hok hnew hv tp).mono ?_
   rintro e w' ⟨A', c', rfl, hN, hV⟩
   exact ⟨A', c', none, 0, 0, rfl, hN, hV, fun W _ => nilF W _ rfl⟩
  | nil =>
   by_cases hd : now - dg < c3
   ·simp only [if_pos hd] at hx
    cases hx
   ·simp only [if_neg hd, Option.some.injEq, Prod.mk.injEq] at hx
    obtain ⟨rfl, rfl, rfl, rfl⟩ := hx
    refine (next_digest s A cc tok at_ dg c0 c1 c2 c3 B mc now p w0 w hB hp hs0 hs (Kd.V_mono hv hok) h0 h1 h2 h3 (by omega) k0 t hl hm hz (Kd.V_mono hvt hok) tp).mono ?_
    rintro e w' ⟨rfl, hN⟩
    exact ⟨A, cc, none, 0, 0, rfl, hN, Kd.V_step hv (fun k ho hlt => hN.keep k hlt (hok k ho)), fun W _ => nilF W _ rfl⟩
theorem next_no (c3 now : Int) (t : List Se) (s : Int) (q : List Ch) (sn : Bool) (tok at_ dg : Int) (fs : List Fr) (hx : nextP c3 now t ⟨s, q, sn, tok, at_, dg, fs⟩ = none) : sn = false ∧ q = [] ∧ now - dg < c3 := by
 unfold nextP at hx
 cases sn with
 | true => rw [if_pos rfl] at hx; cases hx
 | false =>
  rw [if_neg (by simp)] at hx
  cases q with
  | cons x l => cases hx
  | nil =>
   by_cases hd : now - dg < c3
   ·exact ⟨rfl, rfl, hd⟩
   ·simp only [if_neg hd] at hx; cases hx
theorem next_dg {c3 now : Int} {t : List Se} {s : Int} {q : List Ch} {sn : Bool} {tok at_ dg : Int} {fs : List Fr} {f : Fr} {q' : List Ch} {sn' : Bool} {dg' : Int} (hx : nextP c3 now t ⟨s, q, sn, tok, at_, dg, fs⟩ = some (f, q', sn', dg')) (h0 : 0 ≤ dg) (h1 : dg ≤ 1099511627776) (h2 : 0 ≤ now) (h3 : now ≤ 1099511627776) : 0 ≤ dg' ∧ dg' ≤ 1099511627776 := by
 unfold nextP at hx
 cases sn with
 | true =>
  rw [if_pos rfl] at hx
  simp only [Option.some.injEq, Prod.mk.injEq] at hx
  obtain ⟨_, _, _, rfl⟩ := hx
  exact ⟨h2, h3⟩
 | false =>
  rw [if_neg (by simp)] at hx
  cases q with
  | cons x l =>
   simp only [Option.some.injEq, Prod.mk.injEq] at hx
   obtain ⟨_, _, _, rfl⟩ := hx
   exact ⟨h0, h1⟩
  | nil =>
   by_cases hd : now - dg < c3
   ·simp only [if_pos hd] at hx
    cases hx
   ·simp only [if_neg hd, Option.some.injEq, Prod.mk.injEq] at hx
    obtain ⟨_, _, _, rfl⟩ := hx
    exact ⟨h2, h3⟩
abbrev TL : TypeId := 30
/-- A link that may not be, or a view, or a tick: nothing is told. -/
theorem emit_no (k1 k2 : Nat) (c0 c1 c2 c3 s : Int) (A : Option Addr) (cc : Nat) (q : List Ch) (lat : Bool) (tok at_ : Int) (sn : Bool) (dg : Int) (B : Option Addr) (mc : Nat) (t : List Se) (now : Int) (b1 b2 b3 : Bool) (w : World)
  (hq : Kd.C kCh w A q.length q) (hqc : q.length ≤ cc) (ht : Kd.C kSe w B t.length t) (htc : t.length ≤ mc)
  (h1 : link_May.f k1 c0 c1 c2 c3 s q lat tok at_ sn dg = some b1) (h2 : digest_May.f k2 t = some b2) (h3 : link_time.f now = some b3) (hb : (b1 && b2 && b3) = false) :
  Calls Try.prog 24 #[.agg #[.int .i64 c0, .int .i64 c1, .int .i64 c2, .int .i64 c3], .agg #[.int .i64 s, .slice A q.length cc, .bool lat, .int .i64 tok, .int .i64 at_, .bool sn, .int .i64 dg], .slice B t.length mc, .int .i64 now] w
   fun e w' => e = .returned (.tuple #[.agg #[.int .i64 s, .slice A q.length cc, .bool lat, .int .i64 tok, .int .i64 at_, .bool sn, .int .i64 dg], .slice none 0 0]) ∧ Below w.heap.size w w' := by
 have H1 := Aside0.mk (fun (w' : World) (hb : Below w.heap.size w w') => link_May.calls k1 c0 c1 c2 c3 s A cc q lat tok at_ sn dg b1 w' (Kd.C_below hq hb) hqc h1)
 have H2 := Aside0.mk (fun (w' : World) (hb : Below w.heap.size w w') => digest_May.calls k2 B mc t b2 w' (Kd.C_below ht hb) htc h2)
 have H3 := Aside0.mk (fun (w' : World) => link_time.calls now b3 w' h3)
 clear hq hqc ht htc h1 h2 h3
 go_enter Try.func24, Try.ntmps24
 have HB : Below w.heap.size w w := Below.refl _ _
 have hM : Mem w [] := Mem.nil w
 go_upto_region 1 with (fail)
 generalize hg : World.alloc _ _ = w1
 obtain ⟨hB1, hM1, _⟩ := Mem.new3 hg HB hM
 clear HB hM hg
 generalize h4 : w.heap.size = p4 at hM1 ⊢
 have T4 := hM1.get 2 rfl
 have T5 := hM1.get 1 rfl
 have T8 := hM1.get 0 rfl
 have c0_ := hM1.cell 2 0 rfl rfl
 have c1_ := hM1.cell 2 1 rfl rfl
 have c2_ := hM1.cell 2 2 rfl rfl
 have c3_ := hM1.cell 2 3 rfl rfl
 have l0_ := hM1.cell 1 0 rfl rfl
 have l1_ := hM1.cell 1 1 rfl rfl
 have l2_ := hM1.cell 1 2 rfl rfl
 have l3_ := hM1.cell 1 3 rfl rfl
 have l4_ := hM1.cell 1 4 rfl rfl
 have l5_ := hM1.cell 1 5 rfl rfl
 have l6_ := hM1.cell 1 6 rfl rfl
 have hg8 : w.heap.size ≤ p4 + 1 + 1 := by omega
 clear hM1
 go_wp2_with fail
 refine (H1.out w1 hB1).mono ?_
 rintro e w2 ⟨rfl, hb2⟩
 clear c0_ c1_ c2_ c3_ l0_ l1_ l2_ l3_ l4_ l5_ l6_
 replace hB1 := below_step hB1 hb2
 replace T4 := blk_below T4 hb2
 replace T5 := blk_below T5 hb2
 replace T8 := blk_below T8 hb2
 clear hb2 
 cases b1 with
 | false =>
  have l0_ := (blk_cell T5 0).trans rfl
  have l1_ := (blk_cell T5 1).trans rfl
  have l2_ := (blk_cell T5 2).trans rfl
  have l3_ := (blk_cell T5 3).trans rfl
  have l4_ := (blk_cell T5 4).trans rfl
  have l5_ := (blk_cell T5 5).trans rfl
  have l6_ := (blk_cell T5 6).trans rfl
  have k0 := (blk_cell T8 0).trans rfl
  have z0 := blk_frozen T8 0
  have k1 := (blk_cell T8 1).trans rfl
  have z1 := blk_frozen T8 1
  have k2 := (blk_cell T8 2).trans rfl
  have z2 := blk_frozen T8 2
  have k3 := (blk_cell T8 3).trans rfl
  have z3 := blk_frozen T8 3
  have k4 := (blk_cell T8 4).trans rfl
  have z4 := blk_frozen T8 4
  have k5 := (blk_cell T8 5).trans rfl
  have z5 := blk_frozen T8 5
  have k6 := (blk_cell T8 6).trans rfl
  have z6 := blk_frozen T8 6
  go_wp2
  have b0 : (w2.setCell ⟨(p4 + 1 + 1), 0, none⟩ (.int .i64 s)).heap[(p4 + 1 + 1)]? = some (.cells #[(.int .i64 s), (.slice none 0 0), (.bool false), (.int .i64 0), (.int .i64 0), (.bool false), (.int .i64 0)] TL (0, 0)) := blk_set T8 0 _
  have n0 := below_set (j := 0) (v := (.int .i64 s)) hB1 (g := (p4 + 1 + 1)) hg8
  have b1 : ((w2.setCell ⟨(p4 + 1 + 1), 0, none⟩ (.int .i64 s)).setCell ⟨(p4 + 1 + 1), 1, none⟩ (.slice A q.length cc)).heap[(p4 + 1 + 1)]? = some (.cells #[(.int .i64 s), (.slice A q.length cc), (.bool false), (.int .i64 0), (.int .i64 0), (.bool false), (.int .i64 0)] TL (0, 0)) := blk_set b0 1 _
  have n1 := below_set (j := 1) (v := (.slice A q.length cc)) n0 (g := (p4 + 1 + 1)) hg8
  have b2 : (((w2.setCell ⟨(p4 + 1 + 1), 0, none⟩ (.int .i64 s)).setCell ⟨(p4 + 1 + 1), 1, none⟩ (.slice A q.length cc)).setCell ⟨(p4 + 1 + 1), 2, none⟩ (.bool lat)).heap[(p4 + 1 + 1)]? = some (.cells #[(.int .i64 s), (.slice A q.length cc), (.bool lat), (.int .i64 0), (.int .i64 0), (.bool false), (.int .i64 0)] TL (0, 0)) := blk_set b1 2 _
  have n2 := below_set (j := 2) (v := (.bool lat)) n1 (g := (p4 + 1 + 1)) hg8
  have b3 : ((((w2.setCell ⟨(p4 + 1 + 1), 0, none⟩ (.int .i64 s)).setCell ⟨(p4 + 1 + 1), 1, none⟩ (.slice A q.length cc)).setCell ⟨(p4 + 1 + 1), 2, none⟩ (.bool lat)).setCell ⟨(p4 + 1 + 1), 3, none⟩ (.int .i64 tok)).heap[(p4 + 1 + 1)]? = some (.cells #[(.int .i64 s), (.slice A q.length cc), (.bool lat), (.int .i64 tok), (.int .i64 0), (.bool false), (.int .i64 0)] TL (0, 0)) := blk_set b2 3 _
  have n3 := below_set (j := 3) (v := (.int .i64 tok)) n2 (g := (p4 + 1 + 1)) hg8
  have b4 : (((((w2.setCell ⟨(p4 + 1 + 1), 0, none⟩ (.int .i64 s)).setCell ⟨(p4 + 1 + 1), 1, none⟩ (.slice A q.length cc)).setCell ⟨(p4 + 1 + 1), 2, none⟩ (.bool lat)).setCell ⟨(p4 + 1 + 1), 3, none⟩ (.int .i64 tok)).setCell ⟨(p4 + 1 + 1), 4, none⟩ (.int .i64 at_)).heap[(p4 + 1 + 1)]? = some (.cells #[(.int .i64 s), (.slice A q.length cc), (.bool lat), (.int .i64 tok), (.int .i64 at_), (.bool false), (.int .i64 0)] TL (0, 0)) := blk_set b3 4 _
  have n4 := below_set (j := 4) (v := (.int .i64 at_)) n3 (g := (p4 + 1 + 1)) hg8
  have b5 : ((((((w2.setCell ⟨(p4 + 1 + 1), 0, none⟩ (.int .i64 s)).setCell ⟨(p4 + 1 + 1), 1, none⟩ (.slice A q.length cc)).setCell ⟨(p4 + 1 + 1), 2, none⟩ (.bool lat)).setCell ⟨(p4 + 1 + 1), 3, none⟩ (.int .i64 tok)).setCell ⟨(p4 + 1 + 1), 4, none⟩ (.int .i64 at_)).setCell ⟨(p4 + 1 + 1), 5, none⟩ (.bool sn)).heap[(p4 + 1 + 1)]? = some (.cells #[(.int .i64 s), (.slice A q.length cc), (.bool lat), (.int .i64 tok), (.int .i64 at_), (.bool sn), (.int .i64 0)] TL (0, 0)) := blk_set b4 5 _
  have n5 := below_set (j := 5) (v := (.bool sn)) n4 (g := (p4 + 1 + 1)) hg8
  have b6 : (((((((w2.setCell ⟨(p4 + 1 + 1), 0, none⟩ (.int .i64 s)).setCell ⟨(p4 + 1 + 1), 1, none⟩ (.slice A q.length cc)).setCell ⟨(p4 + 1 + 1), 2, none⟩ (.bool lat)).setCell ⟨(p4 + 1 + 1), 3, none⟩ (.int .i64 tok)).setCell ⟨(p4 + 1 + 1), 4, none⟩ (.int .i64 at_)).setCell ⟨(p4 + 1 + 1), 5, none⟩ (.bool sn)).setCell ⟨(p4 + 1 + 1), 6, none⟩ (.int .i64 dg)).heap[(p4 + 1 + 1)]? = some (.cells #[(.int .i64 s), (.slice A q.length cc), (.bool lat), (.int .i64 tok), (.int .i64 at_), (.bool sn), (.int .i64 dg)] TL (0, 0)) := blk_set b5 6 _
  have n6 := below_set (j := 6) (v := (.int .i64 dg)) n5 (g := (p4 + 1 + 1)) hg8
  generalize hwf : (((((((w2.setCell ⟨(p4 + 1 + 1), 0, none⟩ (.int .i64 s)).setCell ⟨(p4 + 1 + 1), 1, none⟩ (.slice A q.length cc)).setCell ⟨(p4 + 1 + 1), 2, none⟩ (.bool lat)).setCell ⟨(p4 + 1 + 1), 3, none⟩ (.int .i64 tok)).setCell ⟨(p4 + 1 + 1), 4, none⟩ (.int .i64 at_)).setCell ⟨(p4 + 1 + 1), 5, none⟩ (.bool sn)).setCell ⟨(p4 + 1 + 1), 6, none⟩ (.int .i64 dg)) = wf at b6 n6 ⊢
  clear b0 n0 b1 n1 b2 n2 b3 n3 b4 n4 b5 n5
  refine bodyPost_ret (results_ct rfl _ _ (p4 + 1 + 1) TL #[(.int .i64 s), (.slice A q.length cc), (.bool lat), (.int .i64 tok), (.int .i64 at_), (.bool sn), (.int .i64 dg)] (0, 0) _ rfl b6 Try.underlying30 rfl (by kernel_rfl)) rfl ?_
  exact ⟨rfl, n6⟩
 | true =>
  go_wp2_with fail
  refine (H2.out w2 hB1).mono ?_
  rintro e w3 ⟨rfl, hb2⟩
  replace hB1 := below_step hB1 hb2
  replace T4 := blk_below T4 hb2
  replace T5 := blk_below T5 hb2
  replace T8 := blk_below T8 hb2
  clear hb2 
  cases b2 with
  | false =>
   have l0_ := (blk_cell T5 0).trans rfl
   have l1_ := (blk_cell T5 1).trans rfl
   have l2_ := (blk_cell T5 2).trans rfl
   have l3_ := (blk_cell T5 3).trans rfl
   have l4_ := (blk_cell T5 4).trans rfl
   have l5_ := (blk_cell T5 5).trans rfl
   have l6_ := (blk_cell T5 6).trans rfl
   have k0 := (blk_cell T8 0).trans rfl
   have z0 := blk_frozen T8 0
   have k1 := (blk_cell T8 1).trans rfl
   have z1 := blk_frozen T8 1
   have k2 := (blk_cell T8 2).trans rfl
   have z2 := blk_frozen T8 2
   have k3 := (blk_cell T8 3).trans rfl
   have z3 := blk_frozen T8 3
   have k4 := (blk_cell T8 4).trans rfl
   have z4 := blk_frozen T8 4
   have k5 := (blk_cell T8 5).trans rfl
   have z5 := blk_frozen T8 5
   have k6 := (blk_cell T8 6).trans rfl
   have z6 := blk_frozen T8 6
   go_wp2
   have b0 : (w3.setCell ⟨(p4 + 1 + 1), 0, none⟩ (.int .i64 s)).heap[(p4 + 1 + 1)]? = some (.cells #[(.int .i64 s), (.slice none 0 0), (.bool false), (.int .i64 0), (.int .i64 0), (.bool false), (.int .i64 0)] TL (0, 0)) := blk_set T8 0 _
   have n0 := below_set (j := 0) (v := (.int .i64 s)) hB1 (g := (p4 + 1 + 1)) hg8
   have b1 : ((w3.setCell ⟨(p4 + 1 + 1), 0, none⟩ (.int .i64 s)).setCell ⟨(p4 + 1 + 1), 1, none⟩ (.slice A q.length cc)).heap[(p4 + 1 + 1)]? = some (.cells #[(.int .i64 s), (.slice A q.length cc), (.bool false), (.int .i64 0), (.int .i64 0), (.bool false), (.int .i64 0)] TL (0, 0)) := blk_set b0 1 _
   have n1 := below_set (j := 1) (v := (.slice A q.length cc)) n0 (g := (p4 + 1 + 1)) hg8
   have b2 : (((w3.setCell ⟨(p4 + 1 + 1), 0, none⟩ (.int .i64 s)).setCell ⟨(p4 + 1 + 1), 1, none⟩ (.slice A q.length cc)).setCell ⟨(p4 + 1 + 1), 2, none⟩ (.bool lat)).heap[(p4 + 1 + 1)]? = some (.cells #[(.int .i64 s), (.slice A q.length cc), (.bool lat), (.int .i64 0), (.int .i64 0), (.bool false), (.int .i64 0)] TL (0, 0)) := blk_set b1 2 _
   have n2 := below_set (j := 2) (v := (.bool lat)) n1 (g := (p4 + 1 + 1)) hg8
   have b3 : ((((w3.setCell ⟨(p4 + 1 + 1), 0, none⟩ (.int .i64 s)).setCell ⟨(p4 + 1 + 1), 1, none⟩ (.slice A q.length cc)).setCell ⟨(p4 + 1 + 1), 2, none⟩ (.bool lat)).setCell ⟨(p4 + 1 + 1), 3, none⟩ (.int .i64 tok)).heap[(p4 + 1 + 1)]? = some (.cells #[(.int .i64 s), (.slice A q.length cc), (.bool lat), (.int .i64 tok), (.int .i64 0), (.bool false), (.int .i64 0)] TL (0, 0)) := blk_set b2 3 _
   have n3 := below_set (j := 3) (v := (.int .i64 tok)) n2 (g := (p4 + 1 + 1)) hg8
   have b4 : (((((w3.setCell ⟨(p4 + 1 + 1), 0, none⟩ (.int .i64 s)).setCell ⟨(p4 + 1 + 1), 1, none⟩ (.slice A q.length cc)).setCell ⟨(p4 + 1 + 1), 2, none⟩ (.bool lat)).setCell ⟨(p4 + 1 + 1), 3, none⟩ (.int .i64 tok)).setCell ⟨(p4 + 1 + 1), 4, none⟩ (.int .i64 at_)).heap[(p4 + 1 + 1)]? = some (.cells #[(.int .i64 s), (.slice A q.length cc), (.bool lat), (.int .i64 tok), (.int .i64 at_), (.bool false), (.int .i64 0)] TL (0, 0)) := blk_set b3 4 _
   have n4 := below_set (j := 4) (v := (.int .i64 at_)) n3 (g := (p4 + 1 + 1)) hg8
   have b5 : ((((((w3.setCell ⟨(p4 + 1 + 1), 0, none⟩ (.int .i64 s)).setCell ⟨(p4 + 1 + 1), 1, none⟩ (.slice A q.length cc)).setCell ⟨(p4 + 1 + 1), 2, none⟩ (.bool lat)).setCell ⟨(p4 + 1 + 1), 3, none⟩ (.int .i64 tok)).setCell ⟨(p4 + 1 + 1), 4, none⟩ (.int .i64 at_)).setCell ⟨(p4 + 1 + 1), 5, none⟩ (.bool sn)).heap[(p4 + 1 + 1)]? = some (.cells #[(.int .i64 s), (.slice A q.length cc), (.bool lat), (.int .i64 tok), (.int .i64 at_), (.bool sn), (.int .i64 0)] TL (0, 0)) := blk_set b4 5 _
   have n5 := below_set (j := 5) (v := (.bool sn)) n4 (g := (p4 + 1 + 1)) hg8
   have b6 : (((((((w3.setCell ⟨(p4 + 1 + 1), 0, none⟩ (.int .i64 s)).setCell ⟨(p4 + 1 + 1), 1, none⟩ (.slice A q.length cc)).setCell ⟨(p4 + 1 + 1), 2, none⟩ (.bool lat)).setCell ⟨(p4 + 1 + 1), 3, none⟩ (.int .i64 tok)).setCell ⟨(p4 + 1 + 1), 4, none⟩ (.int .i64 at_)).setCell ⟨(p4 + 1 + 1), 5, none⟩ (.bool sn)).setCell ⟨(p4 + 1 + 1), 6, none⟩ (.int .i64 dg)).heap[(p4 + 1 + 1)]? = some (.cells #[(.int .i64 s), (.slice A q.length cc), (.bool lat), (.int .i64 tok), (.int .i64 at_), (.bool sn), (.int .i64 dg)] TL (0, 0)) := blk_set b5 6 _
   have n6 := below_set (j := 6) (v := (.int .i64 dg)) n5 (g := (p4 + 1 + 1)) hg8
   generalize hwf : (((((((w3.setCell ⟨(p4 + 1 + 1), 0, none⟩ (.int .i64 s)).setCell ⟨(p4 + 1 + 1), 1, none⟩ (.slice A q.length cc)).setCell ⟨(p4 + 1 + 1), 2, none⟩ (.bool lat)).setCell ⟨(p4 + 1 + 1), 3, none⟩ (.int .i64 tok)).setCell ⟨(p4 + 1 + 1), 4, none⟩ (.int .i64 at_)).setCell ⟨(p4 + 1 + 1), 5, none⟩ (.bool sn)).setCell ⟨(p4 + 1 + 1), 6, none⟩ (.int .i64 dg)) = wf at b6 n6 ⊢
   clear b0 n0 b1 n1 b2 n2 b3 n3 b4 n4 b5 n5
   refine bodyPost_ret (results_ct rfl _ _ (p4 + 1 + 1) TL #[(.int .i64 s), (.slice A q.length cc), (.bool lat), (.int .i64 tok), (.int .i64 at_), (.bool sn), (.int .i64 dg)] (0, 0) _ rfl b6 Try.underlying30 rfl (by kernel_rfl)) rfl ?_
   exact ⟨rfl, n6⟩
  | true =>
   obtain rfl : b3 = false := by simpa using hb
   go_wp2_with fail
   refine (H3.out w3).mono ?_
   rintro e w4 ⟨rfl, hd⟩
   have hb2 := hd.below
   clear hd
   replace hB1 := below_step hB1 hb2
   replace T4 := blk_below T4 hb2
   replace T5 := blk_below T5 hb2
   replace T8 := blk_below T8 hb2
   clear hb2 
   have l0_ := (blk_cell T5 0).trans rfl
   have l1_ := (blk_cell T5 1).trans rfl
   have l2_ := (blk_cell T5 2).trans rfl
   have l3_ := (blk_cell T5 3).trans rfl
   have l4_ := (blk_cell T5 4).trans rfl
   have l5_ := (blk_cell T5 5).trans rfl
   have l6_ := (blk_cell T5 6).trans rfl
   have k0 := (blk_cell T8 0).trans rfl
   have z0 := blk_frozen T8 0
   have k1 := (blk_cell T8 1).trans rfl
   have z1 := blk_frozen T8 1
   have k2 := (blk_cell T8 2).trans rfl
   have z2 := blk_frozen T8 2
   have k3 := (blk_cell T8 3).trans rfl
   have z3 := blk_frozen T8 3
   have k4 := (blk_cell T8 4).trans rfl
   have z4 := blk_frozen T8 4
   have k5 := (blk_cell T8 5).trans rfl
   have z5 := blk_frozen T8 5
   have k6 := (blk_cell T8 6).trans rfl
   have z6 := blk_frozen T8 6
   go_wp2
   have b0 : (w4.setCell ⟨(p4 + 1 + 1), 0, none⟩ (.int .i64 s)).heap[(p4 + 1 + 1)]? = some (.cells #[(.int .i64 s), (.slice none 0 0), (.bool false), (.int .i64 0), (.int .i64 0), (.bool false), (.int .i64 0)] TL (0, 0)) := blk_set T8 0 _
   have n0 := below_set (j := 0) (v := (.int .i64 s)) hB1 (g := (p4 + 1 + 1)) hg8
   have b1 : ((w4.setCell ⟨(p4 + 1 + 1), 0, none⟩ (.int .i64 s)).setCell ⟨(p4 + 1 + 1), 1, none⟩ (.slice A q.length cc)).heap[(p4 + 1 + 1)]? = some (.cells #[(.int .i64 s), (.slice A q.length cc), (.bool false), (.int .i64 0), (.int .i64 0), (.bool false), (.int .i64 0)] TL (0, 0)) := blk_set b0 1 _
   have n1 := below_set (j := 1) (v := (.slice A q.length cc)) n0 (g := (p4 + 1 + 1)) hg8
   have b2 : (((w4.setCell ⟨(p4 + 1 + 1), 0, none⟩ (.int .i64 s)).setCell ⟨(p4 + 1 + 1), 1, none⟩ (.slice A q.length cc)).setCell ⟨(p4 + 1 + 1), 2, none⟩ (.bool lat)).heap[(p4 + 1 + 1)]? = some (.cells #[(.int .i64 s), (.slice A q.length cc), (.bool lat), (.int .i64 0), (.int .i64 0), (.bool false), (.int .i64 0)] TL (0, 0)) := blk_set b1 2 _
   have n2 := below_set (j := 2) (v := (.bool lat)) n1 (g := (p4 + 1 + 1)) hg8
   have b3 : ((((w4.setCell ⟨(p4 + 1 + 1), 0, none⟩ (.int .i64 s)).setCell ⟨(p4 + 1 + 1), 1, none⟩ (.slice A q.length cc)).setCell ⟨(p4 + 1 + 1), 2, none⟩ (.bool lat)).setCell ⟨(p4 + 1 + 1), 3, none⟩ (.int .i64 tok)).heap[(p4 + 1 + 1)]? = some (.cells #[(.int .i64 s), (.slice A q.length cc), (.bool lat), (.int .i64 tok), (.int .i64 0), (.bool false), (.int .i64 0)] TL (0, 0)) := blk_set b2 3 _
   have n3 := below_set (j := 3) (v := (.int .i64 tok)) n2 (g := (p4 + 1 + 1)) hg8
   have b4 : (((((w4.setCell ⟨(p4 + 1 + 1), 0, none⟩ (.int .i64 s)).setCell ⟨(p4 + 1 + 1), 1, none⟩ (.slice A q.length cc)).setCell ⟨(p4 + 1 + 1), 2, none⟩ (.bool lat)).setCell ⟨(p4 + 1 + 1), 3, none⟩ (.int .i64 tok)).setCell ⟨(p4 + 1 + 1), 4, none⟩ (.int .i64 at_)).heap[(p4 + 1 + 1)]? = some (.cells #[(.int .i64 s), (.slice A q.length cc), (.bool lat), (.int .i64 tok), (.int .i64 at_), (.bool false), (.int .i64 0)] TL (0, 0)) := blk_set b3 4 _
   have n4 := below_set (j := 4) (v := (.int .i64 at_)) n3 (g := (p4 + 1 + 1)) hg8
   have b5 : ((((((w4.setCell ⟨(p4 + 1 + 1), 0, none⟩ (.int .i64 s)).setCell ⟨(p4 + 1 + 1), 1, none⟩ (.slice A q.length cc)).setCell ⟨(p4 + 1 + 1), 2, none⟩ (.bool lat)).setCell ⟨(p4 + 1 + 1), 3, none⟩ (.int .i64 tok)).setCell ⟨(p4 + 1 + 1), 4, none⟩ (.int .i64 at_)).setCell ⟨(p4 + 1 + 1), 5, none⟩ (.bool sn)).heap[(p4 + 1 + 1)]? = some (.cells #[(.int .i64 s), (.slice A q.length cc), (.bool lat), (.int .i64 tok), (.int .i64 at_), (.bool sn), (.int .i64 0)] TL (0, 0)) := blk_set b4 5 _
   have n5 := below_set (j := 5) (v := (.bool sn)) n4 (g := (p4 + 1 + 1)) hg8
   have b6 : (((((((w4.setCell ⟨(p4 + 1 + 1), 0, none⟩ (.int .i64 s)).setCell ⟨(p4 + 1 + 1), 1, none⟩ (.slice A q.length cc)).setCell ⟨(p4 + 1 + 1), 2, none⟩ (.bool lat)).setCell ⟨(p4 + 1 + 1), 3, none⟩ (.int .i64 tok)).setCell ⟨(p4 + 1 + 1), 4, none⟩ (.int .i64 at_)).setCell ⟨(p4 + 1 + 1), 5, none⟩ (.bool sn)).setCell ⟨(p4 + 1 + 1), 6, none⟩ (.int .i64 dg)).heap[(p4 + 1 + 1)]? = some (.cells #[(.int .i64 s), (.slice A q.length cc), (.bool lat), (.int .i64 tok), (.int .i64 at_), (.bool sn), (.int .i64 dg)] TL (0, 0)) := blk_set b5 6 _
   have n6 := below_set (j := 6) (v := (.int .i64 dg)) n5 (g := (p4 + 1 + 1)) hg8
   generalize hwf : (((((((w4.setCell ⟨(p4 + 1 + 1), 0, none⟩ (.int .i64 s)).setCell ⟨(p4 + 1 + 1), 1, none⟩ (.slice A q.length cc)).setCell ⟨(p4 + 1 + 1), 2, none⟩ (.bool lat)).setCell ⟨(p4 + 1 + 1), 3, none⟩ (.int .i64 tok)).setCell ⟨(p4 + 1 + 1), 4, none⟩ (.int .i64 at_)).setCell ⟨(p4 + 1 + 1), 5, none⟩ (.bool sn)).setCell ⟨(p4 + 1 + 1), 6, none⟩ (.int .i64 dg)) = wf at b6 n6 ⊢
   clear b0 n0 b1 n1 b2 n2 b3 n3 b4 n4 b5 n5
   refine bodyPost_ret (results_ct rfl _ _ (p4 + 1 + 1) TL #[(.int .i64 s), (.slice A q.length cc), (.bool lat), (.int .i64 tok), (.int .i64 at_), (.bool sn), (.int .i64 dg)] (0, 0) _ rfl b6 Try.underlying30 rfl (by kernel_rfl)) rfl ?_
   exact ⟨rfl, n6⟩
theorem info_fr : (Try.prog.info? 60).map (fun i => (i.zero, i.size, i.bytes)) = some (some (.agg #[(.int .i64 0), (.int .i64 0), (.bool false), (.string ⟨#[]⟩), (.int .i64 0), (.int .i64 0), (.int .i64 0), (.string ⟨#[]⟩), (.int .u64 0), (.slice none 0 0)]), kFr.sz, 112) := by kernel_rfl
set_option maxHeartbeats 16000000 in
/-- A link that may be, a view that may be, a tick: what is told is what 'emitP' says. -/
theorem emit_yes (ok : Nat → Prop) (k1 k2 K : Nat) (c0 c1 c2 c3 s : Int) (A : Option Addr) (cc : Nat) (q : List Ch) (tok at_ : Int) (sn : Bool) (dg : Int) (B : Option Addr) (mc : Nat) (t : List Se) (now : Int) (w : World)
  (hqv : Kd.V kCh 0 w 0 ok (.slice A q.length cc) q) (htv : Kd.V kSe 0 w 0 ok (.slice B t.length mc) t)
  (h1 : link_May.f k1 c0 c1 c2 c3 s q false tok at_ sn dg = some true) (h2 : digest_May.f k2 t = some true) (h3 : link_time.f now = some true)
  (hs0 : 0 ≤ s) (hd0 : 0 ≤ dg) (hd1 : dg ≤ 1099511627776) (hn0 : 0 ≤ now) (hn1 : now ≤ 1099511627776) (hl : t.length ≤ 40) (hz : ∀ x ∈ t, x.f0.size ≤ 9223372036854775807) (hK : K ≤ 1000) (R : St) (hR : emitP c0 c1 c2 c3 now t K ⟨s, q, sn, tok, at_, dg, []⟩ = some R) :
  Calls Try.prog 24 #[.agg #[.int .i64 c0, .int .i64 c1, .int .i64 c2, .int .i64 c3], .agg #[.int .i64 s, .slice A q.length cc, .bool false, .int .i64 tok, .int .i64 at_, .bool sn, .int .i64 dg], .slice B t.length mc, .int .i64 now] w
   fun e w' => ∃ (A' : Option Addr) (c' : Nat) (vo : Value), e = .returned (.tuple #[.agg #[.int .i64 R.s, .slice A' R.q.length c', .bool false, .int .i64 R.tok, .int .i64 R.at_, .bool R.sn, .int .i64 R.dg], vo]) ∧ Kd.V kCh 0 w' 0 (fun k => ok k ∨ w.heap.size ≤ k) (.slice A' R.q.length c') R.q ∧ Kd.V kFr 60 w' 0 (fun k => ok k ∨ w.heap.size ≤ k) vo R.fs ∧ Below w.heap.size w w' := by
 have hqC := (Kd.V_at hqv).2
 have htC := (Kd.V_at htv).2
 have H1 := Aside0.mk (fun (w' : World) (hb : Below w.heap.size w w') => link_May.calls k1 c0 c1 c2 c3 s A cc q false tok at_ sn dg true w' (Kd.C_below (Kd.F_now hqC.2) hb) hqC.1 h1)
 have H2 := Aside0.mk (fun (w' : World) (hb : Below w.heap.size w w') => digest_May.calls k2 B mc t true w' (Kd.C_below (Kd.F_now htC.2) hb) htC.1 h2)
 have H3 := Aside0.mk (fun (w' : World) => link_time.calls now true w' h3)
 have HR := Aside0.mk hR
 have HM := Aside0.mk h2
 have HZ := Aside0.mk hz
 have HL := Aside0.mk hl
 have HN := Aside0.mk (And.intro hn0 hn1)
 have HK := Aside0.mk hK
 have HS := Aside0.mk (And.intro hs0 (And.intro hd0 hd1))
 clear hqC htC h1 h2 h3 hR hs0 hd0 hd1 hz hn0 hn1 hl hK
 go_enter Try.func24, Try.ntmps24
 have HB : Below w.heap.size w w := Below.refl _ _
 have hM : Mem w [] := Mem.nil w
 go_upto_region 1 with (fail)
 generalize hg : World.alloc _ _ = w1
 obtain ⟨hB1, hM1, _⟩ := Mem.new3 hg HB hM
 clear HB hM hg
 generalize h4 : w.heap.size = p4 at hM1 ⊢
 have T4 := hM1.get 2 rfl
 have T5 := hM1.get 1 rfl
 have T8 := hM1.get 0 rfl
 have c0_ := hM1.cell 2 0 rfl rfl
 have c1_ := hM1.cell 2 1 rfl rfl
 have c2_ := hM1.cell 2 2 rfl rfl
 have c3_ := hM1.cell 2 3 rfl rfl
 have l0_ := hM1.cell 1 0 rfl rfl
 have l1_ := hM1.cell 1 1 rfl rfl
 have l2_ := hM1.cell 1 2 rfl rfl
 have l3_ := hM1.cell 1 3 rfl rfl
 have l4_ := hM1.cell 1 4 rfl rfl
 have l5_ := hM1.cell 1 5 rfl rfl
 have l6_ := hM1.cell 1 6 rfl rfl
 clear hM1
 go_wp2_with fail
 refine (H1.out w1 hB1).mono ?_
 rintro e w2 ⟨rfl, hb2⟩
 clear H1 c0_ c1_ c2_ c3_ l0_ l1_ l2_ l3_ l4_ l5_ l6_
 replace hB1 := below_step hB1 hb2
 replace T4 := blk_below T4 hb2
 replace T5 := blk_below T5 hb2
 replace T8 := blk_below T8 hb2
 clear hb2 
 go_wp2_with fail
 refine (H2.out w2 hB1).mono ?_
 rintro e w3 ⟨rfl, hb2⟩
 replace hB1 := below_step hB1 hb2
 replace T4 := blk_below T4 hb2
 replace T5 := blk_below T5 hb2
 replace T8 := blk_below T8 hb2
 clear hb2 H2
 go_wp2_with fail
 refine (H3.out w3).mono ?_
 rintro e w4 ⟨rfl, hd⟩
 have hb2 := hd.below
 replace hB1 := below_step hB1 hb2
 replace T4 := blk_below T4 hb2
 replace T5 := blk_below T5 hb2
 replace T8 := blk_below T8 hb2
 clear hb2 hd H3
 have c0_ := (blk_cell T4 0).trans rfl
 have c1_ := (blk_cell T4 1).trans rfl
 have c2_ := (blk_cell T4 2).trans rfl
 have c3_ := (blk_cell T4 3).trans rfl
 have l0_ := (blk_cell T5 0).trans rfl
 have l1_ := (blk_cell T5 1).trans rfl
 have l2_ := (blk_cell T5 2).trans rfl
 have l3_ := (blk_cell T5 3).trans rfl
 have l4_ := (blk_cell T5 4).trans rfl
 have l5_ := (blk_cell T5 5).trans rfl
 have l6_ := (blk_cell T5 6).trans rfl
 have hp8 : w.heap.size ≤ p4 + 1 + 1 ∧ p4 + 1 + 1 < w4.heap.size := ⟨by omega, blk_lt T8⟩
 go_wp2
 generalize hg : World.alloc _ _ = w5
 have hb5 := al_below hg
 have tp := al_new hg
 have T4' := blk_below T4 hb5
 have T8' := blk_below T8 hb5
 have hVq : Kd.V kCh 34 w5 0 (fun k => ok k ∧ k < w.heap.size) (.slice A q.length cc) q := Kd.V_mono (e := 0) (base := 0) (Kd.V_below (e := 0) (base := 0) (Kd.V_bound hqv) (below_step hB1 hb5)) (fun k hk => hk)
 have hVt : Kd.V kSe 72 w5 0 (fun k => ok k ∧ k < w.heap.size) (.slice B t.length mc) t := Kd.V_mono (e := 0) (base := 0) (Kd.V_below (e := 0) (base := 0) (Kd.V_bound htv) (below_step hB1 hb5)) (fun k hk => hk)
 have hwp : w.heap.size ≤ w4.heap.size := hB1.size
 clear hg T4 T5 T8 hqv htv c0_ c1_ c2_ c3_ l0_ l1_ l2_ l3_ l4_ l5_ l6_
 obtain ⟨pt, hpt⟩ : ∃ x, x = w4.heap.size := ⟨_, rfl⟩
 rw [← hpt] at tp
 rw [← hpt]
 obtain ⟨p8, hp8e⟩ : ∃ x, x = p4 + 1 + 1 := ⟨_, rfl⟩
 rw [← hp8e] at T8'
 rw [← hp8e]
 replace hVq : Kd.V kCh 34 w5 0 (fun k => (k ≠ pt ∧ k ≠ p8 ∧ (ok k ∨ w.heap.size ≤ k)) ∧ some k ≠ (.slice none 0 0 : Value).ownBlock) (.slice A q.length cc) q := Kd.V_mono hVq (fun k hk => ⟨⟨by have := hk.2; omega, by have := hk.2; omega, .inl hk.1⟩, by simp [Value.ownBlock]⟩)
 replace hVt : Kd.V kSe 72 w5 0 (fun k => (k ≠ pt ∧ k ≠ p8 ∧ (ok k ∨ w.heap.size ≤ k)) ∧ some k ≠ (.slice none 0 0 : Value).ownBlock) (.slice B t.length mc) t := Kd.V_mono hVt (fun k hk => ⟨⟨by have := hk.2; omega, by have := hk.2; omega, .inl hk.1⟩, by simp [Value.ownBlock]⟩)
 have hNe : Kd.N kFr 60 w5 pt (fun k => k ≠ pt ∧ k ≠ p8 ∧ (ok k ∨ w.heap.size ≤ k)) (.slice none 0 0) [] := Kd.N_nil _ _ _ _ _
 have F1 := Aside0.mk (show pt ≠ p8 ∧ p4 ≠ pt ∧ p4 ≠ p8 ∧ w.heap.size ≤ p8 ∧ p8 < pt ∧ p4 < pt ∧ w4.heap.size = pt ∧ w.heap.size ≤ w4.heap.size by omega)
 have F2 := Aside0.mk hB1
 clear hp8 hp8e hpt hwp h4 hB1
 have HA := Aside0.mk (And.intro tp (And.intro T4' (And.intro T8' (And.intro hVq (And.intro hVt (And.intro hNe hb5))))))
 clear tp T4' T8' hVq hVt hNe hb5
 go_loopg [10] K (fun g out wr => ∃ (st : St) (A' : Option Addr) (c' : Nat), Aside0 (emitP c0 c1 c2 c3 now t g st = some R) ∧ Aside0 (0 ≤ st.s ∧ 0 ≤ st.dg ∧ st.dg ≤ 1099511627776 ∧ st.fs.length + g ≤ K) ∧ Aside0 (wr.heap[pt]? = some (.cells (tc st.s (.slice A' st.q.length c') false st.tok st.at_ st.sn st.dg c0 c1 c2 c3 (.slice B t.length mc) now) TT (0, 0)) ∧ wr.heap[p4]? = some (.cells #[.int .i64 c0, .int .i64 c1, .int .i64 c2, .int .i64 c3] 23 (0, 0)) ∧ wr.heap[p8]? = some (.cells #[(.int .i64 0), (.slice none 0 0), (.bool false), (.int .i64 0), (.int .i64 0), (.bool false), (.int .i64 0)] TL (0, 0)) ∧ Kd.V kCh 34 wr 0 (fun k => (k ≠ pt ∧ k ≠ p8 ∧ (ok k ∨ w.heap.size ≤ k)) ∧ some k ≠ (out : Value).ownBlock) (.slice A' st.q.length c') st.q ∧ Kd.V kSe 72 wr 0 (fun k => (k ≠ pt ∧ k ≠ p8 ∧ (ok k ∨ w.heap.size ≤ k)) ∧ some k ≠ (out : Value).ownBlock) (.slice B t.length mc) t ∧ Kd.N kFr 60 wr pt (fun k => k ≠ pt ∧ k ≠ p8 ∧ (ok k ∨ w.heap.size ≤ k)) out st.fs ∧ Below w4.heap.size w4 wr))
 case atStart => exact ⟨⟨s, q, sn, tok, at_, dg, []⟩, A, cc, HR, ⟨⟨HS.out.1, HS.out.2.1, HS.out.2.2, by simp⟩⟩, HA⟩
 case round =>
  obtain ⟨st, A', c', hE, hI, hA⟩ := hrel
  clear HA HR HS
  obtain ⟨tp, T4, T8, hVq, hVt, hNf, hb⟩ := hA.out
  clear hA
  obtain ⟨g, rfl⟩ : ∃ g, gk = g + 1 := by
   cases gk with
   | zero => exact absurd hE.out (by simp [emitP])
   | succ g => exact ⟨g, rfl⟩
  have hE' := hE.out
  rw [emitP] at hE'
  clear hE
  obtain ⟨hs0, hd0, hd1, hfl⟩ := hI.out
  clear hI
  obtain ⟨ss, qq, sq, tq, aq, dq, fq⟩ := st
  dsimp only at hE' tp hVq hNf hs0 hd0 hd1 hfl
  have r0 := (blk_cell tp 0).trans rfl
  by_cases hlt : ss < 1099511627776
  rotate_left
  ·rw [if_neg hlt] at hE'
   obtain rfl := Option.some.inj hE'
   have hlt' : 1099511627776 ≤ ss := by omega
   clear hlt hE'
   clear r0
   skip
   have l0_ := (blk_cell tp 0).trans rfl
   have l1_ := (blk_cell tp 1).trans rfl
   have l2_ := (blk_cell tp 2).trans rfl
   have l3_ := (blk_cell tp 3).trans rfl
   have l4_ := (blk_cell tp 4).trans rfl
   have l5_ := (blk_cell tp 5).trans rfl
   have l6_ := (blk_cell tp 6).trans rfl
   have k0 := (blk_cell T8 0).trans rfl
   have z0 := blk_frozen T8 0
   have k1 := (blk_cell T8 1).trans rfl
   have z1 := blk_frozen T8 1
   have k2 := (blk_cell T8 2).trans rfl
   have z2 := blk_frozen T8 2
   have k3 := (blk_cell T8 3).trans rfl
   have z3 := blk_frozen T8 3
   have k4 := (blk_cell T8 4).trans rfl
   have z4 := blk_frozen T8 4
   have k5 := (blk_cell T8 5).trans rfl
   have z5 := blk_frozen T8 5
   have k6 := (blk_cell T8 6).trans rfl
   have z6 := blk_frozen T8 6
   have hg8 : w.heap.size ≤ p8 := F1.out.2.2.2.1
   have hBw := below_step F2.out hb
   go_wp2
   have b0 : (wr.setCell ⟨p8, 0, none⟩ (.int .i64 ss)).heap[p8]? = some (.cells #[(.int .i64 ss), (.slice none 0 0), (.bool false), (.int .i64 0), (.int .i64 0), (.bool false), (.int .i64 0)] TL (0, 0)) := blk_set T8 0 _
   have n0 := below_set (j := 0) (v := (.int .i64 ss)) hBw (g := p8) hg8
   have hVq0 := Kd.V_far hVq (p := ⟨p8, 0, none⟩) (fun k hk => hk.1.2.1) (.int .i64 ss)
   have hNf0 := Kd.N_far hNf (p := ⟨p8, 0, none⟩) (fun k hk => hk.2.1) (.int .i64 ss)
   have b1 : ((wr.setCell ⟨p8, 0, none⟩ (.int .i64 ss)).setCell ⟨p8, 1, none⟩ (.slice A' qq.length c')).heap[p8]? = some (.cells #[(.int .i64 ss), (.slice A' qq.length c'), (.bool false), (.int .i64 0), (.int .i64 0), (.bool false), (.int .i64 0)] TL (0, 0)) := blk_set b0 1 _
   have n1 := below_set (j := 1) (v := (.slice A' qq.length c')) n0 (g := p8) hg8
   have hVq1 := Kd.V_far hVq0 (p := ⟨p8, 1, none⟩) (fun k hk => hk.1.2.1) (.slice A' qq.length c')
   have hNf1 := Kd.N_far hNf0 (p := ⟨p8, 1, none⟩) (fun k hk => hk.2.1) (.slice A' qq.length c')
   have b2 : (((wr.setCell ⟨p8, 0, none⟩ (.int .i64 ss)).setCell ⟨p8, 1, none⟩ (.slice A' qq.length c')).setCell ⟨p8, 2, none⟩ (.bool false)).heap[p8]? = some (.cells #[(.int .i64 ss), (.slice A' qq.length c'), (.bool false), (.int .i64 0), (.int .i64 0), (.bool false), (.int .i64 0)] TL (0, 0)) := blk_set b1 2 _
   have n2 := below_set (j := 2) (v := (.bool false)) n1 (g := p8) hg8
   have hVq2 := Kd.V_far hVq1 (p := ⟨p8, 2, none⟩) (fun k hk => hk.1.2.1) (.bool false)
   have hNf2 := Kd.N_far hNf1 (p := ⟨p8, 2, none⟩) (fun k hk => hk.2.1) (.bool false)
   have b3 : ((((wr.setCell ⟨p8, 0, none⟩ (.int .i64 ss)).setCell ⟨p8, 1, none⟩ (.slice A' qq.length c')).setCell ⟨p8, 2, none⟩ (.bool false)).setCell ⟨p8, 3, none⟩ (.int .i64 tq)).heap[p8]? = some (.cells #[(.int .i64 ss), (.slice A' qq.length c'), (.bool false), (.int .i64 tq), (.int .i64 0), (.bool false), (.int .i64 0)] TL (0, 0)) := blk_set b2 3 _
   have n3 := below_set (j := 3) (v := (.int .i64 tq)) n2 (g := p8) hg8
   have hVq3 := Kd.V_far hVq2 (p := ⟨p8, 3, none⟩) (fun k hk => hk.1.2.1) (.int .i64 tq)
   have hNf3 := Kd.N_far hNf2 (p := ⟨p8, 3, none⟩) (fun k hk => hk.2.1) (.int .i64 tq)
   have b4 : (((((wr.setCell ⟨p8, 0, none⟩ (.int .i64 ss)).setCell ⟨p8, 1, none⟩ (.slice A' qq.length c')).setCell ⟨p8, 2, none⟩ (.bool false)).setCell ⟨p8, 3, none⟩ (.int .i64 tq)).setCell ⟨p8, 4, none⟩ (.int .i64 aq)).heap[p8]? = some (.cells #[(.int .i64 ss), (.slice A' qq.length c'), (.bool false), (.int .i64 tq), (.int .i64 aq), (.bool false), (.int .i64 0)] TL (0, 0)) := blk_set b3 4 _
   have n4 := below_set (j := 4) (v := (.int .i64 aq)) n3 (g := p8) hg8
   have hVq4 := Kd.V_far hVq3 (p := ⟨p8, 4, none⟩) (fun k hk => hk.1.2.1) (.int .i64 aq)
   have hNf4 := Kd.N_far hNf3 (p := ⟨p8, 4, none⟩) (fun k hk => hk.2.1) (.int .i64 aq)
   have b5 : ((((((wr.setCell ⟨p8, 0, none⟩ (.int .i64 ss)).setCell ⟨p8, 1, none⟩ (.slice A' qq.length c')).setCell ⟨p8, 2, none⟩ (.bool false)).setCell ⟨p8, 3, none⟩ (.int .i64 tq)).setCell ⟨p8, 4, none⟩ (.int .i64 aq)).setCell ⟨p8, 5, none⟩ (.bool sq)).heap[p8]? = some (.cells #[(.int .i64 ss), (.slice A' qq.length c'), (.bool false), (.int .i64 tq), (.int .i64 aq), (.bool sq), (.int .i64 0)] TL (0, 0)) := blk_set b4 5 _
   have n5 := below_set (j := 5) (v := (.bool sq)) n4 (g := p8) hg8
   have hVq5 := Kd.V_far hVq4 (p := ⟨p8, 5, none⟩) (fun k hk => hk.1.2.1) (.bool sq)
   have hNf5 := Kd.N_far hNf4 (p := ⟨p8, 5, none⟩) (fun k hk => hk.2.1) (.bool sq)
   have b6 : (((((((wr.setCell ⟨p8, 0, none⟩ (.int .i64 ss)).setCell ⟨p8, 1, none⟩ (.slice A' qq.length c')).setCell ⟨p8, 2, none⟩ (.bool false)).setCell ⟨p8, 3, none⟩ (.int .i64 tq)).setCell ⟨p8, 4, none⟩ (.int .i64 aq)).setCell ⟨p8, 5, none⟩ (.bool sq)).setCell ⟨p8, 6, none⟩ (.int .i64 dq)).heap[p8]? = some (.cells #[(.int .i64 ss), (.slice A' qq.length c'), (.bool false), (.int .i64 tq), (.int .i64 aq), (.bool sq), (.int .i64 dq)] TL (0, 0)) := blk_set b5 6 _
   have n6 := below_set (j := 6) (v := (.int .i64 dq)) n5 (g := p8) hg8
   have hVq6 := Kd.V_far hVq5 (p := ⟨p8, 6, none⟩) (fun k hk => hk.1.2.1) (.int .i64 dq)
   have hNf6 := Kd.N_far hNf5 (p := ⟨p8, 6, none⟩) (fun k hk => hk.2.1) (.int .i64 dq)
   generalize hwf : (((((((wr.setCell ⟨p8, 0, none⟩ (.int .i64 ss)).setCell ⟨p8, 1, none⟩ (.slice A' qq.length c')).setCell ⟨p8, 2, none⟩ (.bool false)).setCell ⟨p8, 3, none⟩ (.int .i64 tq)).setCell ⟨p8, 4, none⟩ (.int .i64 aq)).setCell ⟨p8, 5, none⟩ (.bool sq)).setCell ⟨p8, 6, none⟩ (.int .i64 dq)) = wf at b6 n6 hVq6 hNf6 ⊢
   clear b0 n0 b1 n1 b2 n2 b3 n3 b4 n4 b5 n5
   refine bodyPost_ret (results_ct rfl _ _ p8 TL #[(.int .i64 ss), (.slice A' qq.length c'), (.bool false), (.int .i64 tq), (.int .i64 aq), (.bool sq), (.int .i64 dq)] (0, 0) _ rfl b6 Try.underlying30 rfl (by kernel_rfl)) rfl ?_
   exact ⟨A', c', _, rfl, Kd.V_mono (e := 0) (base := 0) hVq6 (fun k hk => hk.1.2.2), Kd.N_V (Kd.N_mono hNf6 (fun k hk => hk.2.2)), n6⟩
  rw [if_pos hlt] at hE'
  have c0_ := (blk_cell T4 0).trans rfl
  have c1_ := (blk_cell T4 1).trans rfl
  have c2_ := (blk_cell T4 2).trans rfl
  have c3_ := (blk_cell T4 3).trans rfl
  have r3 := (blk_cell tp 3).trans rfl
  have r4 := (blk_cell tp 4).trans rfl
  have HT := Aside0.mk (fun w => take_calls c0 c1 c2 c3 tq aq now w)
  rcases hT : TK c0 c1 c2 c3 tq aq now with ⟨a1, a2, a3⟩
  rw [hT] at HT hE'
  dsimp only at HT hE'
  clear hT
  have HE := Aside0.mk hE'
  clear hE'
  go_wp2_with fail
  refine (HT.out wr).mono ?_
  rintro e x1 ⟨rfl, hbx⟩
  clear HT r0 r3 r4 c0_ c1_ c2_ c3_
  replace tp := blk_below tp hbx
  replace T4 := blk_below T4 hbx
  replace T8 := blk_below T8 hbx
  replace hVq := Kd.V_below hVq hbx
  replace hVt := Kd.V_below hVt hbx
  replace hNf := Kd.N_below hNf hbx
  replace hb := below_step hb hbx
  clear hbx
  have HLT := Aside0.mk (And.intro (blk_lt tp) (blk_lt T8))
  go_upto_region 7 with (fail)
  generalize hg : World.alloc _ _ = x2
  have hbx := al_below hg
  have T12 := al_new hg
  clear hg
  replace tp := blk_below tp hbx
  replace T4 := blk_below T4 hbx
  replace T8 := blk_below T8 hbx
  replace hVq := Kd.V_below hVq hbx
  replace hVt := Kd.V_below hVt hbx
  replace hNf := Kd.N_below hNf hbx
  replace hb := below_step hb hbx
  clear hbx
  obtain ⟨p12, hp12⟩ : ∃ x, x = x1.heap.size := ⟨_, rfl⟩
  rw [← hp12] at T12
  rw [← hp12]
  have h12p : p12 ≠ pt ∧ p12 ≠ p8 := ⟨by have := HLT.out.1; omega, by have := HLT.out.2; omega⟩
  clear hp12 HLT
  cases a3 with
  | false =>
   have hE' := HE.out
   rw [if_neg (by simp)] at hE'
   obtain rfl := Option.some.inj hE'
   clear HE hE' T12 hlt h12p
   have l0_ := (blk_cell tp 0).trans rfl
   have l1_ := (blk_cell tp 1).trans rfl
   have l2_ := (blk_cell tp 2).trans rfl
   have l3_ := (blk_cell tp 3).trans rfl
   have l4_ := (blk_cell tp 4).trans rfl
   have l5_ := (blk_cell tp 5).trans rfl
   have l6_ := (blk_cell tp 6).trans rfl
   have k0 := (blk_cell T8 0).trans rfl
   have z0 := blk_frozen T8 0
   have k1 := (blk_cell T8 1).trans rfl
   have z1 := blk_frozen T8 1
   have k2 := (blk_cell T8 2).trans rfl
   have z2 := blk_frozen T8 2
   have k3 := (blk_cell T8 3).trans rfl
   have z3 := blk_frozen T8 3
   have k4 := (blk_cell T8 4).trans rfl
   have z4 := blk_frozen T8 4
   have k5 := (blk_cell T8 5).trans rfl
   have z5 := blk_frozen T8 5
   have k6 := (blk_cell T8 6).trans rfl
   have z6 := blk_frozen T8 6
   have hg8 : w.heap.size ≤ p8 := F1.out.2.2.2.1
   have hBw := below_step F2.out hb
   go_wp2
   have b0 : (x2.setCell ⟨p8, 0, none⟩ (.int .i64 ss)).heap[p8]? = some (.cells #[(.int .i64 ss), (.slice none 0 0), (.bool false), (.int .i64 0), (.int .i64 0), (.bool false), (.int .i64 0)] TL (0, 0)) := blk_set T8 0 _
   have n0 := below_set (j := 0) (v := (.int .i64 ss)) hBw (g := p8) hg8
   have hVq0 := Kd.V_far hVq (p := ⟨p8, 0, none⟩) (fun k hk => hk.1.2.1) (.int .i64 ss)
   have hNf0 := Kd.N_far hNf (p := ⟨p8, 0, none⟩) (fun k hk => hk.2.1) (.int .i64 ss)
   have b1 : ((x2.setCell ⟨p8, 0, none⟩ (.int .i64 ss)).setCell ⟨p8, 1, none⟩ (.slice A' qq.length c')).heap[p8]? = some (.cells #[(.int .i64 ss), (.slice A' qq.length c'), (.bool false), (.int .i64 0), (.int .i64 0), (.bool false), (.int .i64 0)] TL (0, 0)) := blk_set b0 1 _
   have n1 := below_set (j := 1) (v := (.slice A' qq.length c')) n0 (g := p8) hg8
   have hVq1 := Kd.V_far hVq0 (p := ⟨p8, 1, none⟩) (fun k hk => hk.1.2.1) (.slice A' qq.length c')
   have hNf1 := Kd.N_far hNf0 (p := ⟨p8, 1, none⟩) (fun k hk => hk.2.1) (.slice A' qq.length c')
   have b2 : (((x2.setCell ⟨p8, 0, none⟩ (.int .i64 ss)).setCell ⟨p8, 1, none⟩ (.slice A' qq.length c')).setCell ⟨p8, 2, none⟩ (.bool false)).heap[p8]? = some (.cells #[(.int .i64 ss), (.slice A' qq.length c'), (.bool false), (.int .i64 0), (.int .i64 0), (.bool false), (.int .i64 0)] TL (0, 0)) := blk_set b1 2 _
   have n2 := below_set (j := 2) (v := (.bool false)) n1 (g := p8) hg8
   have hVq2 := Kd.V_far hVq1 (p := ⟨p8, 2, none⟩) (fun k hk => hk.1.2.1) (.bool false)
   have hNf2 := Kd.N_far hNf1 (p := ⟨p8, 2, none⟩) (fun k hk => hk.2.1) (.bool false)
   have b3 : ((((x2.setCell ⟨p8, 0, none⟩ (.int .i64 ss)).setCell ⟨p8, 1, none⟩ (.slice A' qq.length c')).setCell ⟨p8, 2, none⟩ (.bool false)).setCell ⟨p8, 3, none⟩ (.int .i64 tq)).heap[p8]? = some (.cells #[(.int .i64 ss), (.slice A' qq.length c'), (.bool false), (.int .i64 tq), (.int .i64 0), (.bool false), (.int .i64 0)] TL (0, 0)) := blk_set b2 3 _
   have n3 := below_set (j := 3) (v := (.int .i64 tq)) n2 (g := p8) hg8
   have hVq3 := Kd.V_far hVq2 (p := ⟨p8, 3, none⟩) (fun k hk => hk.1.2.1) (.int .i64 tq)
   have hNf3 := Kd.N_far hNf2 (p := ⟨p8, 3, none⟩) (fun k hk => hk.2.1) (.int .i64 tq)
   have b4 : (((((x2.setCell ⟨p8, 0, none⟩ (.int .i64 ss)).setCell ⟨p8, 1, none⟩ (.slice A' qq.length c')).setCell ⟨p8, 2, none⟩ (.bool false)).setCell ⟨p8, 3, none⟩ (.int .i64 tq)).setCell ⟨p8, 4, none⟩ (.int .i64 aq)).heap[p8]? = some (.cells #[(.int .i64 ss), (.slice A' qq.length c'), (.bool false), (.int .i64 tq), (.int .i64 aq), (.bool false), (.int .i64 0)] TL (0, 0)) := blk_set b3 4 _
   have n4 := below_set (j := 4) (v := (.int .i64 aq)) n3 (g := p8) hg8
   have hVq4 := Kd.V_far hVq3 (p := ⟨p8, 4, none⟩) (fun k hk => hk.1.2.1) (.int .i64 aq)
   have hNf4 := Kd.N_far hNf3 (p := ⟨p8, 4, none⟩) (fun k hk => hk.2.1) (.int .i64 aq)
   have b5 : ((((((x2.setCell ⟨p8, 0, none⟩ (.int .i64 ss)).setCell ⟨p8, 1, none⟩ (.slice A' qq.length c')).setCell ⟨p8, 2, none⟩ (.bool false)).setCell ⟨p8, 3, none⟩ (.int .i64 tq)).setCell ⟨p8, 4, none⟩ (.int .i64 aq)).setCell ⟨p8, 5, none⟩ (.bool sq)).heap[p8]? = some (.cells #[(.int .i64 ss), (.slice A' qq.length c'), (.bool false), (.int .i64 tq), (.int .i64 aq), (.bool sq), (.int .i64 0)] TL (0, 0)) := blk_set b4 5 _
   have n5 := below_set (j := 5) (v := (.bool sq)) n4 (g := p8) hg8
   have hVq5 := Kd.V_far hVq4 (p := ⟨p8, 5, none⟩) (fun k hk => hk.1.2.1) (.bool sq)
   have hNf5 := Kd.N_far hNf4 (p := ⟨p8, 5, none⟩) (fun k hk => hk.2.1) (.bool sq)
   have b6 : (((((((x2.setCell ⟨p8, 0, none⟩ (.int .i64 ss)).setCell ⟨p8, 1, none⟩ (.slice A' qq.length c')).setCell ⟨p8, 2, none⟩ (.bool false)).setCell ⟨p8, 3, none⟩ (.int .i64 tq)).setCell ⟨p8, 4, none⟩ (.int .i64 aq)).setCell ⟨p8, 5, none⟩ (.bool sq)).setCell ⟨p8, 6, none⟩ (.int .i64 dq)).heap[p8]? = some (.cells #[(.int .i64 ss), (.slice A' qq.length c'), (.bool false), (.int .i64 tq), (.int .i64 aq), (.bool sq), (.int .i64 dq)] TL (0, 0)) := blk_set b5 6 _
   have n6 := below_set (j := 6) (v := (.int .i64 dq)) n5 (g := p8) hg8
   have hVq6 := Kd.V_far hVq5 (p := ⟨p8, 6, none⟩) (fun k hk => hk.1.2.1) (.int .i64 dq)
   have hNf6 := Kd.N_far hNf5 (p := ⟨p8, 6, none⟩) (fun k hk => hk.2.1) (.int .i64 dq)
   generalize hwf : (((((((x2.setCell ⟨p8, 0, none⟩ (.int .i64 ss)).setCell ⟨p8, 1, none⟩ (.slice A' qq.length c')).setCell ⟨p8, 2, none⟩ (.bool false)).setCell ⟨p8, 3, none⟩ (.int .i64 tq)).setCell ⟨p8, 4, none⟩ (.int .i64 aq)).setCell ⟨p8, 5, none⟩ (.bool sq)).setCell ⟨p8, 6, none⟩ (.int .i64 dq)) = wf at b6 n6 hVq6 hNf6 ⊢
   clear b0 n0 b1 n1 b2 n2 b3 n3 b4 n4 b5 n5
   refine bodyPost_ret (results_ct rfl _ _ p8 TL #[(.int .i64 ss), (.slice A' qq.length c'), (.bool false), (.int .i64 tq), (.int .i64 aq), (.bool sq), (.int .i64 dq)] (0, 0) _ rfl b6 Try.underlying30 rfl (by kernel_rfl)) rfl ?_
   exact ⟨A', c', _, rfl, Kd.V_mono (e := 0) (base := 0) hVq6 (fun k hk => hk.1.2.2), Kd.N_V (Kd.N_mono hNf6 (fun k hk => hk.2.2)), n6⟩
  | true =>
   have hE' := HE.out
   rw [if_pos rfl] at hE'
   clear HE
   have hz5 := F1.out
   skip
   rcases hnx : nextP c3 now t ⟨ss, qq, sq, tq, aq, dq, fq⟩ with _ | ⟨f, q', sn', dg'⟩
   ·rw [hnx] at hE'
    dsimp only at hE'
    obtain rfl := Option.some.inj hE'
    obtain ⟨rfl, rfl, hdd⟩ := next_no c3 now t ss qq sq tq aq dq fq hnx
    clear hE' hnx
    have HX2 := Aside0.mk (next_none ss A' c' tq aq dq c0 c1 c2 c3 B t.length mc now pt w4 x2 hb (by have := F1.out; omega) hs0 hlt (Kd.V_mono hVq (fun k hk => hk.1.1)) hd0 hd1 HN.out.1 HN.out.2 hdd tp)
    clear hdd hlt hz5
    go_wp2_with fail
    refine HX2.out.mono ?_
    rintro e x3 ⟨rfl, hN⟩
    replace T4 := (hN.keep p4 (blk_lt T4) F1.out.2.1).trans T4
    replace T8 := (hN.keep p8 (blk_lt T8) F1.out.1.symm).trans T8
    replace hVq := Kd.V_step hVq (fun k ho hlt => hN.keep k hlt ho.1.1)
    replace hNf := Kd.N_step hNf (fun k ho hlt => hN.keep k hlt ho.1)
    replace tp := hN.tp
    replace hb := hN.bel
    clear hN HX2 T12 hVt h12p T4
    go_upto_region 9 with (fail)
    generalize hg : World.alloc _ _ = x4
    have hbx := al_below hg
    clear hg
    replace tp := blk_below tp hbx
    replace T8 := blk_below T8 hbx
    replace hVq := Kd.V_below hVq hbx
    replace hNf := Kd.N_below hNf hbx
    replace hb := below_step hb hbx
    clear hbx
    have l0_ := (blk_cell tp 0).trans rfl
    have l1_ := (blk_cell tp 1).trans rfl
    have l2_ := (blk_cell tp 2).trans rfl
    have l3_ := (blk_cell tp 3).trans rfl
    have l4_ := (blk_cell tp 4).trans rfl
    have l5_ := (blk_cell tp 5).trans rfl
    have l6_ := (blk_cell tp 6).trans rfl
    have k0 := (blk_cell T8 0).trans rfl
    have z0 := blk_frozen T8 0
    have k1 := (blk_cell T8 1).trans rfl
    have z1 := blk_frozen T8 1
    have k2 := (blk_cell T8 2).trans rfl
    have z2 := blk_frozen T8 2
    have k3 := (blk_cell T8 3).trans rfl
    have z3 := blk_frozen T8 3
    have k4 := (blk_cell T8 4).trans rfl
    have z4 := blk_frozen T8 4
    have k5 := (blk_cell T8 5).trans rfl
    have z5 := blk_frozen T8 5
    have k6 := (blk_cell T8 6).trans rfl
    have z6 := blk_frozen T8 6
    have hg8 : w.heap.size ≤ p8 := F1.out.2.2.2.1
    have hBw := below_step F2.out hb
    go_wp2
    have b0 : (x4.setCell ⟨p8, 0, none⟩ (.int .i64 ss)).heap[p8]? = some (.cells #[(.int .i64 ss), (.slice none 0 0), (.bool false), (.int .i64 0), (.int .i64 0), (.bool false), (.int .i64 0)] TL (0, 0)) := blk_set T8 0 _
    have n0 := below_set (j := 0) (v := (.int .i64 ss)) hBw (g := p8) hg8
    have hVq0 := Kd.V_far hVq (p := ⟨p8, 0, none⟩) (fun k hk => hk.1.2.1) (.int .i64 ss)
    have hNf0 := Kd.N_far hNf (p := ⟨p8, 0, none⟩) (fun k hk => hk.2.1) (.int .i64 ss)
    have b1 : ((x4.setCell ⟨p8, 0, none⟩ (.int .i64 ss)).setCell ⟨p8, 1, none⟩ (.slice A' ([] : List Ch).length c')).heap[p8]? = some (.cells #[(.int .i64 ss), (.slice A' ([] : List Ch).length c'), (.bool false), (.int .i64 0), (.int .i64 0), (.bool false), (.int .i64 0)] TL (0, 0)) := blk_set b0 1 _
    have n1 := below_set (j := 1) (v := (.slice A' ([] : List Ch).length c')) n0 (g := p8) hg8
    have hVq1 := Kd.V_far hVq0 (p := ⟨p8, 1, none⟩) (fun k hk => hk.1.2.1) (.slice A' ([] : List Ch).length c')
    have hNf1 := Kd.N_far hNf0 (p := ⟨p8, 1, none⟩) (fun k hk => hk.2.1) (.slice A' ([] : List Ch).length c')
    have b2 : (((x4.setCell ⟨p8, 0, none⟩ (.int .i64 ss)).setCell ⟨p8, 1, none⟩ (.slice A' ([] : List Ch).length c')).setCell ⟨p8, 2, none⟩ (.bool false)).heap[p8]? = some (.cells #[(.int .i64 ss), (.slice A' ([] : List Ch).length c'), (.bool false), (.int .i64 0), (.int .i64 0), (.bool false), (.int .i64 0)] TL (0, 0)) := blk_set b1 2 _
    have n2 := below_set (j := 2) (v := (.bool false)) n1 (g := p8) hg8
    have hVq2 := Kd.V_far hVq1 (p := ⟨p8, 2, none⟩) (fun k hk => hk.1.2.1) (.bool false)
    have hNf2 := Kd.N_far hNf1 (p := ⟨p8, 2, none⟩) (fun k hk => hk.2.1) (.bool false)
    have b3 : ((((x4.setCell ⟨p8, 0, none⟩ (.int .i64 ss)).setCell ⟨p8, 1, none⟩ (.slice A' ([] : List Ch).length c')).setCell ⟨p8, 2, none⟩ (.bool false)).setCell ⟨p8, 3, none⟩ (.int .i64 tq)).heap[p8]? = some (.cells #[(.int .i64 ss), (.slice A' ([] : List Ch).length c'), (.bool false), (.int .i64 tq), (.int .i64 0), (.bool false), (.int .i64 0)] TL (0, 0)) := blk_set b2 3 _
    have n3 := below_set (j := 3) (v := (.int .i64 tq)) n2 (g := p8) hg8
    have hVq3 := Kd.V_far hVq2 (p := ⟨p8, 3, none⟩) (fun k hk => hk.1.2.1) (.int .i64 tq)
    have hNf3 := Kd.N_far hNf2 (p := ⟨p8, 3, none⟩) (fun k hk => hk.2.1) (.int .i64 tq)
    have b4 : (((((x4.setCell ⟨p8, 0, none⟩ (.int .i64 ss)).setCell ⟨p8, 1, none⟩ (.slice A' ([] : List Ch).length c')).setCell ⟨p8, 2, none⟩ (.bool false)).setCell ⟨p8, 3, none⟩ (.int .i64 tq)).setCell ⟨p8, 4, none⟩ (.int .i64 aq)).heap[p8]? = some (.cells #[(.int .i64 ss), (.slice A' ([] : List Ch).length c'), (.bool false), (.int .i64 tq), (.int .i64 aq), (.bool false), (.int .i64 0)] TL (0, 0)) := blk_set b3 4 _
    have n4 := below_set (j := 4) (v := (.int .i64 aq)) n3 (g := p8) hg8
    have hVq4 := Kd.V_far hVq3 (p := ⟨p8, 4, none⟩) (fun k hk => hk.1.2.1) (.int .i64 aq)
    have hNf4 := Kd.N_far hNf3 (p := ⟨p8, 4, none⟩) (fun k hk => hk.2.1) (.int .i64 aq)
    have b5 : ((((((x4.setCell ⟨p8, 0, none⟩ (.int .i64 ss)).setCell ⟨p8, 1, none⟩ (.slice A' ([] : List Ch).length c')).setCell ⟨p8, 2, none⟩ (.bool false)).setCell ⟨p8, 3, none⟩ (.int .i64 tq)).setCell ⟨p8, 4, none⟩ (.int .i64 aq)).setCell ⟨p8, 5, none⟩ (.bool false)).heap[p8]? = some (.cells #[(.int .i64 ss), (.slice A' ([] : List Ch).length c'), (.bool false), (.int .i64 tq), (.int .i64 aq), (.bool false), (.int .i64 0)] TL (0, 0)) := blk_set b4 5 _
    have n5 := below_set (j := 5) (v := (.bool false)) n4 (g := p8) hg8
    have hVq5 := Kd.V_far hVq4 (p := ⟨p8, 5, none⟩) (fun k hk => hk.1.2.1) (.bool false)
    have hNf5 := Kd.N_far hNf4 (p := ⟨p8, 5, none⟩) (fun k hk => hk.2.1) (.bool false)
    have b6 : (((((((x4.setCell ⟨p8, 0, none⟩ (.int .i64 ss)).setCell ⟨p8, 1, none⟩ (.slice A' ([] : List Ch).length c')).setCell ⟨p8, 2, none⟩ (.bool false)).setCell ⟨p8, 3, none⟩ (.int .i64 tq)).setCell ⟨p8, 4, none⟩ (.int .i64 aq)).setCell ⟨p8, 5, none⟩ (.bool false)).setCell ⟨p8, 6, none⟩ (.int .i64 dq)).heap[p8]? = some (.cells #[(.int .i64 ss), (.slice A' ([] : List Ch).length c'), (.bool false), (.int .i64 tq), (.int .i64 aq), (.bool false), (.int .i64 dq)] TL (0, 0)) := blk_set b5 6 _
    have n6 := below_set (j := 6) (v := (.int .i64 dq)) n5 (g := p8) hg8
    have hVq6 := Kd.V_far hVq5 (p := ⟨p8, 6, none⟩) (fun k hk => hk.1.2.1) (.int .i64 dq)
    have hNf6 := Kd.N_far hNf5 (p := ⟨p8, 6, none⟩) (fun k hk => hk.2.1) (.int .i64 dq)
    generalize hwf : (((((((x4.setCell ⟨p8, 0, none⟩ (.int .i64 ss)).setCell ⟨p8, 1, none⟩ (.slice A' ([] : List Ch).length c')).setCell ⟨p8, 2, none⟩ (.bool false)).setCell ⟨p8, 3, none⟩ (.int .i64 tq)).setCell ⟨p8, 4, none⟩ (.int .i64 aq)).setCell ⟨p8, 5, none⟩ (.bool false)).setCell ⟨p8, 6, none⟩ (.int .i64 dq)) = wf at b6 n6 hVq6 hNf6 ⊢
    clear b0 n0 b1 n1 b2 n2 b3 n3 b4 n4 b5 n5
    refine bodyPost_ret (results_ct rfl _ _ p8 TL #[(.int .i64 ss), (.slice A' ([] : List Ch).length c'), (.bool false), (.int .i64 tq), (.int .i64 aq), (.bool false), (.int .i64 dq)] (0, 0) _ rfl b6 Try.underlying30 rfl (by kernel_rfl)) rfl ?_
    exact ⟨A', c', _, rfl, Kd.V_mono (e := 0) (base := 0) hVq6 (fun k hk => hk.1.2.2), Kd.N_V (Kd.N_mono hNf6 (fun k hk => hk.2.2)), n6⟩
   ·rw [hnx] at hE'
    dsimp only at hE'
    have HE := Aside0.mk hE'
    clear hE'
    have hNlt := Kd.N_lt hNf
    have HX2 := Aside0.mk (next_some c0 c1 c2 c3 now t ss qq sq tq aq dq fq f q' sn' dg' hnx A' c' B mc pt w4 x2 hb (by have := F1.out; omega) hs0 hlt hd0 hd1 HN.out.1 HN.out.2 k2 HL.out HM.out HZ.out (fun k => (k ≠ pt ∧ k ≠ p8 ∧ (ok k ∨ w.heap.size ≤ k)) ∧ some k ≠ (u10 : Value).ownBlock) (fun k hk => hk.1.1) (fun k hk => ⟨⟨by have := blk_lt tp; omega, by have := blk_lt T8; omega, .inr (by have := F1.out; have := hb.size; omega)⟩, fun e => by have := hNlt k e.symm; omega⟩) hVq hVt tp)
    have hdg : 0 ≤ dg' ∧ dg' ≤ 1099511627776 := next_dg hnx hd0 hd1 HN.out.1 HN.out.2
    clear hnx hz5 hNlt
    go_wp2_with fail
    refine HX2.out.mono ?_
    rintro e x3 ⟨A2, c2', A3, n3, c3', rfl, hN, hVq2, hFK⟩
    replace T4 := (hN.keep p4 (blk_lt T4) F1.out.2.1).trans T4
    replace T8 := (hN.keep p8 (blk_lt T8) F1.out.1.symm).trans T8
    replace T12 := (hN.keep p12 (blk_lt T12) h12p.1).trans T12
    replace hVt := Kd.V_step hVt (fun k ho hlt => hN.keep k hlt ho.1.1)
    replace hNf := Kd.N_step hNf (fun k ho hlt => hN.keep k hlt ho.1)
    replace tp := hN.tp
    replace hb := hN.bel
    clear hN HX2 hVq
    have hVq := hVq2
    clear hVq2
    have hltp := blk_lt tp
    go_upto_region 9 with (fail)
    generalize hg : World.alloc _ _ = x4
    have hbx := al_below hg
    have T14 := al_new hg
    clear hg
    replace tp := blk_below tp hbx
    replace T4 := blk_below T4 hbx
    replace T8 := blk_below T8 hbx
    replace T12 := blk_below T12 hbx
    replace hVq := Kd.V_below hVq hbx
    replace hVt := Kd.V_below hVt hbx
    replace hNf := Kd.N_below hNf hbx
    replace hb := below_step hb hbx
    clear hbx
    have hlx : pt < x3.heap.size := hltp
    obtain ⟨p14, hp14⟩ : ∃ x, x = x3.heap.size := ⟨_, rfl⟩
    rw [← hp14] at T14 hlx
    rw [← hp14]
    have hpp : p14 ≠ pt := by omega
    clear hp14 hlx hltp
    replace T14 : x4.heap[p14]? = some (.cells #[.int .i64 f.f0, .int .i64 f.f1, .bool f.f2, .string f.f3, .int .i64 f.f4.f0, .int .i64 f.f4.f1, .int .i64 f.f4.f2, .string f.f4.f3, .int .u64 f.f5, .slice A3 n3 c3'] 60 (0, 0)) := T14
    have q0 := (blk_cell T12 0).trans rfl
    have q1 := (blk_cell T12 1).trans rfl
    have r3 := (blk_cell tp 3).trans rfl
    have z3 := blk_frozen tp 3
    have r4 := (blk_cell tp 4).trans rfl
    have z4 := blk_frozen tp 4
    go_upto_region 11 with (fail)
    clear q0 q1 r3 r4 z3 z4 T12
    have tp3 : (x4.setCell ⟨pt, 3, none⟩ (.int .i64 a1)).heap[pt]? = some (.cells (tc (ss + 1) (.slice A2 q'.length c2') false a1 aq sn' dg' c0 c1 c2 c3 (.slice B t.length mc) now) TT (0, 0)) := blk_set tp 3 _
    have tp4 : ((x4.setCell ⟨pt, 3, none⟩ (.int .i64 a1)).setCell ⟨pt, 4, none⟩ (.int .i64 a2)).heap[pt]? = some (.cells (tc (ss + 1) (.slice A2 q'.length c2') false a1 a2 sn' dg' c0 c1 c2 c3 (.slice B t.length mc) now) TT (0, 0)) := blk_set tp3 4 _
    have T4' := blk_far (blk_far T4 (p := ⟨pt, 3, none⟩) F1.out.2.1 (.int .i64 a1)) (p := ⟨pt, 4, none⟩) F1.out.2.1 (.int .i64 a2)
    have T8' := blk_far (blk_far T8 (p := ⟨pt, 3, none⟩) F1.out.1.symm (.int .i64 a1)) (p := ⟨pt, 4, none⟩) F1.out.1.symm (.int .i64 a2)
    have T14' := blk_far (blk_far T14 (p := ⟨pt, 3, none⟩) hpp (.int .i64 a1)) (p := ⟨pt, 4, none⟩) hpp (.int .i64 a2)
    have hVq' := Kd.V_far (Kd.V_far hVq (p := ⟨pt, 3, none⟩) (fun k hk => hk.1.1) (.int .i64 a1)) (p := ⟨pt, 4, none⟩) (fun k hk => hk.1.1) (.int .i64 a2)
    have hVt' := Kd.V_far (Kd.V_far hVt (p := ⟨pt, 3, none⟩) (fun k hk => hk.1.1) (.int .i64 a1)) (p := ⟨pt, 4, none⟩) (fun k hk => hk.1.1) (.int .i64 a2)
    have hNf' := Kd.N_far (Kd.N_far hNf (p := ⟨pt, 3, none⟩) (fun k hk => hk.1) (.int .i64 a1)) (p := ⟨pt, 4, none⟩) (fun k hk => hk.1) (.int .i64 a2)
    have hge : w4.heap.size ≤ pt := by have := F1.out; omega
    have hb' := below_set (below_set hb (g := pt) (j := 3) (v := (.int .i64 a1)) hge) (g := pt) (j := 4) (v := (.int .i64 a2)) hge
    generalize hw : ((x4.setCell ⟨pt, 3, none⟩ (.int .i64 a1)).setCell ⟨pt, 4, none⟩ (.int .i64 a2)) = x5 at tp4 T4' T8' T14' hVq' hVt' hNf' hb' ⊢
    clear hw tp tp3 T4 T8 T14 hVq hVt hNf hb hge hpp
    have q0 : x5.cell? ⟨p14, 0, none⟩ = some (.int .i64 f.f0) := (blk_cell T14' 0).trans rfl
    have q1 : x5.cell? ⟨p14, 1, none⟩ = some (.int .i64 f.f1) := (blk_cell T14' 1).trans rfl
    have q2 : x5.cell? ⟨p14, 2, none⟩ = some (.bool f.f2) := (blk_cell T14' 2).trans rfl
    have q3 : x5.cell? ⟨p14, 3, none⟩ = some (.string f.f3) := (blk_cell T14' 3).trans rfl
    have q4 : x5.cell? ⟨p14, 4, none⟩ = some (.int .i64 f.f4.f0) := (blk_cell T14' 4).trans rfl
    have q5 : x5.cell? ⟨p14, 5, none⟩ = some (.int .i64 f.f4.f1) := (blk_cell T14' 5).trans rfl
    have q6 : x5.cell? ⟨p14, 6, none⟩ = some (.int .i64 f.f4.f2) := (blk_cell T14' 6).trans rfl
    have q7 : x5.cell? ⟨p14, 7, none⟩ = some (.string f.f4.f3) := (blk_cell T14' 7).trans rfl
    have q8 : x5.cell? ⟨p14, 8, none⟩ = some (.int .u64 f.f5) := (blk_cell T14' 8).trans rfl
    have q9 : x5.cell? ⟨p14, 9, none⟩ = some (.slice A3 n3 c3') := (blk_cell T14' 9).trans rfl
    have hbp : Below pt w4 x5 := by have e := F1.out.2.2.2.2.2.2.1; rw [e] at hb'; exact hb'
    have HP := Aside0.mk (hFK x5 hVt')
    have HM5 := Aside0.mk (And.intro tp4 (And.intro T4' (And.intro T8' (And.intro hVq' (And.intro hVt' (And.intro hNf' hbp))))))
    have HX := Aside0.mk (And.intro hs0 (And.intro hdg hfl))
    clear tp4 T4' T8' T14' hVq' hVt' hNf' hbp hb' hFK hs0 hd0 hd1 hdg hfl hlt h12p
    go_wp2_with ((with_reducible refine gate_builtin (b := .append) (xs := #[.tmp 60, .tmp 62]) rfl ?_); (try (refine gate_guard (by rfl) ?_; dsimp only)); at_builtin; refine Kd.N_append kFr (w0 := w4) pt rfl (.tmp 60) (.tmp 62) 50 60 (.agg #[(.int .i64 0), (.int .i64 0), (.bool false), (.string ⟨#[]⟩), (.int .i64 0), (.int .i64 0), (.int .i64 0), (.string ⟨#[]⟩), (.int .u64 0), (.slice none 0 0)]) 112 rfl Try.underlying50 info_fr rfl (by decide) (by omega) u10 fq f [.int .i64 f.f0, .int .i64 f.f1, .bool f.f2, .string f.f3, .int .i64 f.f4.f0, .int .i64 f.f4.f1, .int .i64 f.f4.f2, .string f.f4.f3, .int .u64 f.f5, .slice A3 n3 c3'] (fun k => k ≠ pt ∧ k ≠ p8 ∧ (ok k ∨ w.heap.size ≤ k)) (fun k => (k ≠ pt ∧ k ≠ p8 ∧ (ok k ∨ w.heap.size ≤ k)) ∧ some k ≠ (u10 : Value).ownBlock) rfl rfl HP.out (fun _ hk => hk) ?aF HM5.out.2.2.2.2.2.1 HM5.out.2.2.2.2.2.2 ?aS ?aL ?_; (case aF => exact (fun k hk => ⟨by have := blk_lt HM5.out.1; omega, by have := blk_lt HM5.out.2.2.1; omega, .inr (by have := F1.out; have := blk_lt HM5.out.1; omega)⟩)); (case aS => exact Nat.le_of_lt (blk_lt HM5.out.1)); (case aL => have := HX.out.2.2; have := HK.out; omega); intro v1 y1 ho hb hg hat)
    obtain ⟨tp, T4, T8, hVq, hVt, hNf, _⟩ := HM5.out
    replace hVq := Kd.V_afterv (ok := (fun k => k ≠ pt ∧ k ≠ p8 ∧ (ok k ∨ w.heap.size ≤ k))) hVq hg hat
    replace hVt := Kd.V_afterv (ok := (fun k => k ≠ pt ∧ k ≠ p8 ∧ (ok k ∨ w.heap.size ≤ k))) hVt hg hat
    replace tp := blk_grown tp hg (Kd.N_away hNf (fun _ hk => hk.1))
    replace T8 := blk_grown T8 hg (Kd.N_away hNf (fun _ hk => hk.2.1))
    replace T4 := blk_grown T4 hg (Kd.N_ne hNf T4 (by decide))
    have hb4 : Below w4.heap.size w4 y1 := by have e := F1.out.2.2.2.2.2.2.1; rw [e]; exact hb
    go_roundg g
    case measure => omega
    case rel => exact ⟨⟨ss + 1, q', sn', a1, a2, dg', fq ++ [f]⟩, A2, c2', HE, ⟨⟨by have := HX.out.1; show 0 ≤ ss + 1; omega, HX.out.2.1.1, HX.out.2.1.2, by have := HX.out.2.2; simp only [List.length_append, List.length_cons, List.length_nil]; omega⟩⟩, ⟨⟨tp, T4, T8, hVq, hVt, ho, hb4⟩⟩⟩
end Go.Proofs.Ytmigglldahkngaa.XTell
end

section
/- Tables in plain lists, where the seat does not reach digest.Set: the words of its text alone. -/
namespace Go.Proofs.Ytmigglldahkngaa.XIns
open Go.RowKit Go.Proofs.Ytmigglldahkngaa.PA
abbrev Sn := S72
def insL (l : List Sn) (i : Nat) (x : Sn) : List Sn := l.take i ++ x :: l.drop i
theorem insL_len (l : List Sn) (i : Nat) (x : Sn) : (insL l i x).length = l.length + 1 := by simp only [insL, List.length_append, List.length_cons, List.length_take, List.length_drop]; omega
end Go.Proofs.Ytmigglldahkngaa.XIns
namespace Go.Proofs.Ytmigglldahkngaa.XDel
open Go.RowKit Go.Proofs.Ytmigglldahkngaa.PA Go.Proofs.Ytmigglldahkngaa.XIns
def is (n : ByteArray) (x : Sn) : Bool := x.f0.toList == n.toList
end Go.Proofs.Ytmigglldahkngaa.XDel
namespace Go.Proofs.Ytmigglldahkngaa.XSet
open Go.RowKit Go.Proofs.Ytmigglldahkngaa.PA Go.Proofs.Ytmigglldahkngaa.XIns Go.Proofs.Ytmigglldahkngaa.XDel Go.Proofs.Ytmigglldahkngaa.XLess
def atL (n : ByteArray) : List Sn → Nat → Nat → Nat
 | [], _, a => a
 | x :: t, i, a => atL n t (i + 1) (if lessB x.f0 n = true then i + 1 else a)
def setL (l : List Sn) (n : ByteArray) (on : Bool) (a b c : Int) (t : ByteArray) : List Sn :=
 if on = true then insL (l.filter fun x => !is n x) (atL n (l.filter fun x => !is n x) 0 0) ⟨n, ⟨a, b, c, t⟩⟩ else l.filter fun x => !is n x
end Go.Proofs.Ytmigglldahkngaa.XSet
end

section
-- Written by a program of this session (wip/tools/xprint.py), which drives the kit's print.
namespace Go.Proofs.Ytmigglldahkngaa.PA
open Go.RowKit Go.Proofs.YtmigglldahkngaaW.PrintWords Go.Proofs.YtmigglldahkngaaW.PrintLast Go.Proofs.YtmigglldahkngaaW.PrintMore
attribute [local go_sem] max2_int min2_int max_two min_two   -- for this text's walks alone
set_option linter.unusedVariables false
set_option linter.unusedSimpArgs false

theorem eqA72 (d : Nat) (w : World) (x0 y0 : ByteArray) (x1 y1 : Int) (x2 y2 : Int) (x3 y3 : Int) (x4 y4 : ByteArray) :
  (Op.equalIn (d + 3) 72 (.agg #[.string x0, .int .i64 x1, .int .i64 x2, .int .i64 x3, .string x4]) (.agg #[.string y0, .int .i64 y1, .int .i64 y2, .int .i64 y3, .string y4])).run Try.prog w = .ok (x0.toList == y0.toList && ((x1 == y1 && (x2 == y2 && (x3 == y3 && (x4.toList == y4.toList)))))) w := by
 refine eqA_of Try.underlying72 (by kernel_rfl) ?_
 refine eqf_cons (by rfl) (by go_simp; rfl) (by go_simp; rfl) (by go_simp) ?_
 exact eqf_last (by rfl) (by go_simp) (by go_simp) (eqA32 (d + 0) w _ _ _ _ _ _ _ _)
end Go.Proofs.Ytmigglldahkngaa.PA
end

section
-- Written by a program of this session (wip/tools/xprint.py), which drives the kit's print.
namespace Go.Proofs.Ytmigglldahkngaa.PA
open Go.RowKit Go.Proofs.YtmigglldahkngaaW.PrintWords Go.Proofs.YtmigglldahkngaaW.PrintLast Go.Proofs.YtmigglldahkngaaW.PrintMore Go.Proofs.Ytmigglldahkngaa.XQuiet
attribute [local go_sem] max2_int min2_int max_two min_two   -- for this text's walks alone
set_option linter.unusedVariables false
set_option linter.unusedSimpArgs false

attribute [local go_sem high] eqA32 eqA72
/-! ### rollcallref05_Same: function 34 -/
def rollcallref05_Same.l0 : Nat → List (S72) → List (S72) → Int → Option (Bool)
 | 0, _, _, _ => none
 | k + 1, x0, x1, x5 => if x5 < (x0.length : Int) then (if 0 ≤ x5 then (if x5 < (x1.length : Int) then (if (!((((rd_T72 x0 x5).f0).toList) == (((rd_T72 x1 x5).f0).toList)) || ((!(((rd_T72 x0 x5).f1.f0) == ((rd_T72 x1 x5).f1.f0)) || (!(((rd_T72 x0 x5).f1.f1) == ((rd_T72 x1 x5).f1.f1)) || (!(((rd_T72 x0 x5).f1.f2) == ((rd_T72 x1 x5).f1.f2)) || (!((((rd_T72 x0 x5).f1.f3).toList) == (((rd_T72 x1 x5).f1.f3).toList)))))))) = true then (some false) else (rollcallref05_Same.l0 k x0 x1 (wrap64 (x5 + 1)))) else (none)) else (none)) else (some true)
def rollcallref05_Same.f (k : Nat) (l0 : List (S72)) (l1 : List (S72)) : Option (Bool) := if (l0.length : Int) = (l1.length : Int) then (rollcallref05_Same.l0 k l0 l1 0) else (some false)
set_option maxHeartbeats 8000000 in
set_option maxRecDepth 100000 in
theorem rollcallref05_Same.calls (k : Nat) (A0 : Option Addr) (c0 : Nat) (l0 : List (S72)) (A1 : Option Addr) (c1 : Nat) (l1 : List (S72)) (r : Bool) (w : World) (hr0 : Kd.C k72 w A0 l0.length l0) (hc0 : l0.length ≤ c0) (hr1 : Kd.C k72 w A1 l1.length l1) (hc1 : l1.length ≤ c1) (h : rollcallref05_Same.f k l0 l1 = some r) :
  Calls Try.prog 34 #[.slice A0 l0.length c0, .slice A1 l1.length c1] w fun e w' => e = .returned (.bool r) ∧ Drawn0 w w' := by
 have hu72 := Try.underlying72
 have HR0 := Aside0.mk hr0
 have HC0 := Aside0.mk hc0
 clear hr0 hc0
 have HR1 := Aside0.mk hr1
 have HC1 := Aside0.mk hc1
 clear hr1 hc1
 have H : (if (l0.length : Int) = (l1.length : Int) then (rollcallref05_Same.l0 k l0 l1 0) else (some false)) = some r := h
 clear h
 by_cases c3 : (l0.length : Int) = (l1.length : Int)
 ·rw [if_pos c3] at H
  have c3b0 : ((l0.length : Int) == (l1.length : Int)) = true := beq_iff_eq.mpr c3
  have c3b1 : ((l0.length : Int) != (l1.length : Int)) = false := bne_eq_false_iff_eq.mpr c3
  have c3b2 : (l0.length == l1.length) = true := by first | simpa using c3 | (simp at c3 ⊢; omega)
  clear c3
  have H' := Aside0.mk H
  clear H
  go_enter Try.func34, Try.ntmps34
  go_wp2
  repeat (go_quiet (fail); try go_wp2)
  go_loopg [5] k (fun kq v5 w' => ∃ (x5_1 : Int), v5 = .int .i64 x5_1 ∧ Aside0 (rollcallref05_Same.l0 kq l0 l1 x5_1 = some r) ∧ Aside0 (kq ≤ k) ∧ Drawn0 w w')
  case atStart => exact ⟨(0), (by first | rfl | (simp; done) | (simp [*]; done)), H', ⟨Nat.le_refl _⟩, by repeat (first | exact Drawn0.refl _ | apply Drawn0.step)⟩
  case round =>
   clear H'
   try clear c1
   try clear p2
   try clear c3
   try clear c3b0
   try clear c3b1
   try clear c3b2
   obtain ⟨x5_1, rfl, HA, HK1, ⟨m1, rfl⟩⟩ := hrel
   cases gk with
   | zero => exact absurd HA.out (by simp [rollcallref05_Same.l0])
   | succ k1 =>
    have H := HA.out
    clear HA
    simp only [rollcallref05_Same.l0] at H
    by_cases c4 : x5_1 < (l0.length : Int)
    ·rw [if_pos c4] at H
     have c4b0 : decide (x5_1 < (l0.length : Int)) = true := decide_eq_true c4
     clear c4
     by_cases c5 : 0 ≤ x5_1
     ·rw [if_pos c5] at H
      have c5b0 : decide (0 ≤ x5_1) = true := decide_eq_true c5
      clear c5
      by_cases c6 : x5_1 < (l1.length : Int)
      ·rw [if_pos c6] at H
       have c6b0 : decide (x5_1 < (l1.length : Int)) = true := decide_eq_true c6
       clear c6
       by_cases c7 : (!((((rd_T72 l0 x5_1).f0).toList) == (((rd_T72 l1 x5_1).f0).toList)) || ((!(((rd_T72 l0 x5_1).f1.f0) == ((rd_T72 l1 x5_1).f1.f0)) || (!(((rd_T72 l0 x5_1).f1.f1) == ((rd_T72 l1 x5_1).f1.f1)) || (!(((rd_T72 l0 x5_1).f1.f2) == ((rd_T72 l1 x5_1).f1.f2)) || (!((((rd_T72 l0 x5_1).f1.f3).toList) == (((rd_T72 l1 x5_1).f1.f3).toList)))))))) = true
       ·rw [if_pos c7] at H
        have c7b0 : (!((((rd_T72 l0 x5_1).f0).toList) == (((rd_T72 l1 x5_1).f0).toList)) || ((!(((rd_T72 l0 x5_1).f1.f0) == ((rd_T72 l1 x5_1).f1.f0)) || (!(((rd_T72 l0 x5_1).f1.f1) == ((rd_T72 l1 x5_1).f1.f1)) || (!(((rd_T72 l0 x5_1).f1.f2) == ((rd_T72 l1 x5_1).f1.f2)) || (!((((rd_T72 l0 x5_1).f1.f3).toList) == (((rd_T72 l1 x5_1).f1.f3).toList)))))))) = true := c7
        clear c7
        obtain rfl := Option.some.inj H
        have p400 : 0 ≤ (x5_1 : Int) := of_decide_eq_true (by first | (with_reducible assumption) | assumption)
        have q400 : x5_1 < (l0.length : Int) := of_decide_eq_true (by first | (with_reducible assumption) | assumption)
        obtain ⟨ad400, e400, hx400_0, hx400_1, hx400_2, hx400_3, hx400_4⟩ := at_T72 HR0.out x5_1 p400 q400
        cases e400
        replace p400 := eq_true p400
        replace q400 := eq_true q400
        have p401 : 0 ≤ (x5_1 : Int) := of_decide_eq_true (by first | (with_reducible assumption) | assumption)
        have q401 : x5_1 < (l1.length : Int) := of_decide_eq_true (by first | (with_reducible assumption) | assumption)
        obtain ⟨ad401, e401, hx401_0, hx401_1, hx401_2, hx401_3, hx401_4⟩ := at_T72 HR1.out x5_1 p401 q401
        cases e401
        replace p401 := eq_true p401
        replace q401 := eq_true q401
        go_wp2
        repeat (go_quiet (fail); try go_wp2)
        go_ret
        exact ⟨by first | rfl | (simp; done) | (simp [*]; done), by repeat (first | exact Drawn0.refl _ | apply Drawn0.step)⟩
       ·rw [if_neg c7] at H
        have c7b0 : (!((((rd_T72 l0 x5_1).f0).toList) == (((rd_T72 l1 x5_1).f0).toList)) || ((!(((rd_T72 l0 x5_1).f1.f0) == ((rd_T72 l1 x5_1).f1.f0)) || (!(((rd_T72 l0 x5_1).f1.f1) == ((rd_T72 l1 x5_1).f1.f1)) || (!(((rd_T72 l0 x5_1).f1.f2) == ((rd_T72 l1 x5_1).f1.f2)) || (!((((rd_T72 l0 x5_1).f1.f3).toList) == (((rd_T72 l1 x5_1).f1.f3).toList)))))))) = false := by simpa using c7
        clear c7
        have H' := Aside0.mk H
        clear H
        have p400 : 0 ≤ (x5_1 : Int) := of_decide_eq_true (by first | (with_reducible assumption) | assumption)
        have q400 : x5_1 < (l0.length : Int) := of_decide_eq_true (by first | (with_reducible assumption) | assumption)
        obtain ⟨ad400, e400, hx400_0, hx400_1, hx400_2, hx400_3, hx400_4⟩ := at_T72 HR0.out x5_1 p400 q400
        cases e400
        replace p400 := eq_true p400
        replace q400 := eq_true q400
        have p401 : 0 ≤ (x5_1 : Int) := of_decide_eq_true (by first | (with_reducible assumption) | assumption)
        have q401 : x5_1 < (l1.length : Int) := of_decide_eq_true (by first | (with_reducible assumption) | assumption)
        obtain ⟨ad401, e401, hx401_0, hx401_1, hx401_2, hx401_3, hx401_4⟩ := at_T72 HR1.out x5_1 p401 q401
        cases e401
        replace p401 := eq_true p401
        replace q401 := eq_true q401
        go_wp2
        repeat (go_quiet (fail); try go_wp2)
        go_roundg k1
        case measure => have := HK1.out; omega
        case rel => exact ⟨(wrap64 (x5_1 + 1)), (by first | rfl | (simp; done) | (simp [*]; done)), H', ⟨by have := HK1.out; omega⟩, by repeat (first | exact Drawn0.refl _ | apply Drawn0.step)⟩
      ·rw [if_neg c6] at H
       exact absurd H (by simp)
     ·rw [if_neg c5] at H
      exact absurd H (by simp)
    ·rw [if_neg c4] at H
     have c4b0 : decide (x5_1 < (l0.length : Int)) = false := decide_eq_false c4
     clear c4
     obtain rfl := Option.some.inj H
     go_wp2
     repeat (go_quiet (fail); try go_wp2)
     go_ret
     exact ⟨by first | rfl | (simp; done) | (simp [*]; done), by repeat (first | exact Drawn0.refl _ | apply Drawn0.step)⟩
 ·rw [if_neg c3] at H
  have c3b0 : ((l0.length : Int) == (l1.length : Int)) = false := beq_eq_false_iff_ne.mpr c3
  have c3b1 : ((l0.length : Int) != (l1.length : Int)) = true := bne_iff_ne.mpr c3
  have c3b2 : (l0.length == l1.length) = false := by first | simpa using c3 | (simp at c3 ⊢; omega)
  obtain rfl := Option.some.inj H
  go_enter Try.func34, Try.ntmps34
  go_wp2
  repeat (go_quiet (fail); try go_wp2)
  go_ret
  exact ⟨by first | rfl | (simp; done) | (simp [*]; done), by repeat (first | exact Drawn0.refl _ | apply Drawn0.step)⟩

/-! ### rollcallref06_Same: function 55 -/
/-! ### rollcallref18_Frames: function 26 -/
end Go.Proofs.Ytmigglldahkngaa.PA
end

section
/- Queues over tables, in plain lists: which queues may be; what is set over a table. -/
namespace Go.Proofs.Ytmigglldahkngaa.XV17
open Go.RowKit Go.Proofs.Ytmigglldahkngaa.PA Go.Proofs.YtmigglldahkngaaW.PrintWords Go.Proofs.YtmigglldahkngaaW.PrintLast Go.Proofs.Ytmigglldahkngaa.XGen
open Go.Proofs.Ytmigglldahkngaa.XPlace (idx is)
open Go.Proofs.Ytmigglldahkngaa.XSet (atL setL)
open Go.Proofs.Ytmigglldahkngaa.XIns (insL insL_len)
open Go.Proofs.Ytmigglldahkngaa.XLess (lessB)
set_option linter.unusedVariables false
set_option linter.unusedSimpArgs false
abbrev Se := S72
def nth (l : List Ch) (j : Nat) : Ch := l.getD j z34
theorem nth_get (l : List Ch) (j : Nat) (h : j < l.length) : nth l j = l[j] := getD_lt l _ j h
def allO (l : List Ch) : Nat → Nat → Bool
 | 0, _ => true
 | d + 1, j => (decide (idx (is (nth l j).f0) l 0 = (j : Int)) && oneB (nth l j)) && allO l d (j + 1)
def mayQ (l : List Ch) (lat : Bool) (room : Int) : Bool := allO l l.length 0 && (decide ((l.length : Int) ≤ room) && (!lat || decide (l.length = 0)))
theorem mayLB (l : List Ch) (lat : Bool) (room : Int) (hl : l.length ≤ 1000000) (hs : ∀ x ∈ l, x.f0.size ≤ 9223372036854775807) : ∀ (d k j : Nat), j + d = l.length → d < k →
  queue_May.l0 k room l (l.length : Int) (j : Int) l lat = some (allO l d j && (decide ((l.length : Int) ≤ room) && (!lat || decide (l.length = 0)))) := by
 intro d
 induction d with
 | zero =>
  intro k j hj hk
  obtain ⟨k, rfl⟩ : ∃ m, k = m + 1 := ⟨k - 1, by omega⟩
  rw [queue_May.l0, if_neg (by omega)]
  by_cases c : (l.length : Int) ≤ room
  ·rw [if_pos c]
   cases lat with
   | true =>
    rw [if_pos rfl]
    simp only [allO, Bool.true_and, decide_eq_true c, Bool.not_true, Bool.false_or]
    congr 1
    by_cases e : l.length = 0
    ·rw [decide_eq_true e, e]; rfl
    ·rw [decide_eq_false e]; simpa using e
   | false => rw [if_neg (by simp)]; simp [allO, c]
  ·rw [if_neg c]; simp [c]
 | succ d ih =>
  intro k j hj hk
  obtain ⟨k, rfl⟩ : ∃ m, k = m + 1 := ⟨k - 1, by omega⟩
  have hm : l[j] ∈ l := List.getElem_mem _
  rw [queue_May.l0, if_pos (by omega), if_pos (by omega), if_pos (by omega), rd_at l j (by omega), place_f]
  simp only [Option.bind_some]
  rw [allO, nth_get l j (by omega)]
  by_cases c : idx (is l[j].f0) l 0 = (j : Int)
  ·rw [if_pos c, one_f l[j] (hs _ hm), decide_eq_true c]
   simp only [Option.bind_some, Bool.true_and]
   cases ho : oneB l[j] with
   | true => rw [if_pos rfl, wrap_succ j (by omega), ih k (j + 1) (by omega) (by omega), Bool.true_and]
   | false => rw [if_neg (by simp), Bool.false_and, Bool.false_and]
  ·rw [if_neg c, decide_eq_false c, Bool.false_and, Bool.false_and, Bool.false_and]
theorem may_b (k : Nat) (l : List Ch) (lat : Bool) (room : Int) (hl : l.length ≤ 1000000) (hs : ∀ x ∈ l, x.f0.size ≤ 9223372036854775807) (hk : l.length < k) : queue_May.f k l lat room = some (mayQ l lat room) := mayLB l lat room hl hs l.length k 0 (by omega) hk
theorem refMayLB (l : List Ch) (lat : Bool) (hl : l.length ≤ 1000000) : ∀ (d k j : Nat), j + d = l.length → d + l.length + 100 < k → rollcallref17_May.l0 k (j : Int) l lat = some (allO l d j) := by
 intro d
 induction d with
 | zero =>
  intro k j hj hk
  obtain ⟨k, rfl⟩ : ∃ m, k = m + 1 := ⟨k - 1, by omega⟩
  rw [rollcallref17_May.l0, if_neg (by omega)]
  rfl
 | succ d ih =>
  intro k j hj hk
  obtain ⟨k, rfl⟩ : ∃ m, k = m + 1 := ⟨k - 1, by omega⟩
  rw [rollcallref17_May.l0, if_pos (by omega), if_pos (by omega), rd_at l j (by omega), refOne_f k l[j] (by omega)]
  simp only [Option.bind_some]
  rw [allO, nth_get l j (by omega)]
  cases ho : oneB l[j] with
  | true =>
   rw [if_pos rfl, refPlace_f k l _ _ hl (by omega)]
   simp only [Option.bind_some]
   by_cases c : idx (is l[j].f0) l 0 = (j : Int)
   ·rw [if_pos c, wrap_succ j (by omega), ih k (j + 1) (by omega) (by omega), decide_eq_true c]
    simp
   ·rw [if_neg c, decide_eq_false c]
    simp
  | false => rw [if_neg (by simp)]; simp
theorem refMay_b (k : Nat) (l : List Ch) (lat : Bool) (room : Int) (hl : l.length ≤ 1000000) (hk : 2 * l.length + 110 < k) : rollcallref17_May.f k l lat room = some (mayQ l lat room) := by
 have hj : ∀ b, rollcallref17_May.j0 k b l lat = some (!b && allO l l.length 0) := fun b => by
  obtain ⟨k, rfl⟩ : ∃ m, k = m + 1 := ⟨k - 1, by omega⟩
  rw [rollcallref17_May.j0]
  cases b with
  | true => rw [if_pos rfl]; simp
  | false => rw [if_neg (by simp)]; rw [show (0 : Int) = ((0 : Nat) : Int) from rfl, refMayLB l lat hl l.length k 0 (by omega) (by omega)]; simp
 unfold rollcallref17_May.f mayQ
 rw [hj, hj, hj]
 by_cases c : (l.length : Int) > room
 ·rw [if_pos c, decide_eq_false (by omega)]; simp
 ·rw [if_neg c, decide_eq_true (show (l.length : Int) ≤ room by omega)]
  cases lat with
  | true =>
   rw [if_pos rfl]
   by_cases e : l.length = 0
   ·rw [decide_eq_true e, decide_eq_false (by omega)]; simp
   ·rw [decide_eq_false e, decide_eq_true (by omega)]; simp
  | false => rw [if_neg (by simp)]; simp
theorem empty_b (l : List Ch) (lat : Bool) : queue_Empty.f l lat = some (decide (l.length = 0) && !lat) := by
 unfold queue_Empty.f
 by_cases c : l.length = 0
 ·rw [if_pos (by omega), decide_eq_true c]; rfl
 ·rw [if_neg (by omega), decide_eq_false c]; rfl
theorem less_bytes : ∀ a b : List UInt8, Op.bytesLess a b = decide (Lib.compareBytes a b < 0)
 | [], [] => rfl
 | [], _ :: _ => rfl
 | _ :: _, [] => rfl
 | x :: a, y :: b => by
  rw [Op.bytesLess, Lib.compareBytes]
  by_cases c : x < y
  ·simp [c]
  ·rw [if_neg c]
   by_cases d : y < x
   ·rw [if_pos d]
    have hne : ¬ x = y := fun e => by subst e; exact c d
    simp [c, hne]
   ·rw [if_neg d]
    have he : x = y := by
     have h1 : ¬ x.toNat < y.toNat := fun h => c h
     have h2 : ¬ y.toNat < x.toNat := fun h => d h
     exact UInt8.toNat_inj.1 (by omega)
    subst he
    simp [less_bytes a b]
theorem refLess_b (a b : ByteArray) : rollcallref03_Less.f a b = some (lessB a b) := by
 unfold rollcallref03_Less.f lessB XLess.ordI XLess.orI XLess.cmpI XLess.byBytes
 by_cases c : (a.size : Int) < (b.size : Int)
 ·rw [if_pos c, if_pos c]; rfl
 ·rw [if_neg c, if_neg c]
  by_cases d : (a.size : Int) = (b.size : Int)
  ·rw [if_pos d, if_neg (by omega), less_bytes, Lib.toList_data, Lib.toList_data]
  ·rw [if_neg d, if_pos (by omega), if_pos (show (a.size : Int) > (b.size : Int) by omega)]; rfl
theorem rdS_at (l : List Se) (j : Nat) (h : j < l.length) : rd_T72 l (j : Int) = l[j] := by
 unfold rd_T72
 rw [Int.toNat_natCast, getD_lt l _ j h]
def setC (t : List Se) (c : Ch) : List Se := setL t c.f0 c.f1 c.f2.f0 c.f2.f1 c.f2.f2 c.f2.f3
theorem setC_len (t : List Se) (c : Ch) : (setC t c).length ≤ t.length + 1 := by
 unfold setC setL
 have h : ∀ p : Se → Bool, (t.filter p).length ≤ t.length := fun p => List.length_filter_le _ _
 split
 ·rw [insL_len]; exact Nat.add_le_add_right (h _) 1
 ·exact Nat.le_succ_of_le (h _)
def overQ (t : List Se) (l : List Ch) : List Se := l.foldl setC t
theorem sameSL (l : List Se) (hl : l.length ≤ 1000000) : ∀ (d k j : Nat), j + d = l.length → d < k → rollcallref05_Same.l0 k l l (j : Int) = some true := by
 intro d
 induction d with
 | zero =>
  intro k j hj hk
  obtain ⟨k, rfl⟩ : ∃ m, k = m + 1 := ⟨k - 1, by omega⟩
  rw [rollcallref05_Same.l0, if_neg (by omega)]
 | succ d ih =>
  intro k j hj hk
  obtain ⟨k, rfl⟩ : ∃ m, k = m + 1 := ⟨k - 1, by omega⟩
  rw [rollcallref05_Same.l0, if_pos (by omega), if_pos (by omega), if_pos (by omega), if_neg (by simp), wrap_succ j (by omega)]
  exact ih k (j + 1) (by omega) (by omega)
theorem sameS_f (k : Nat) (l : List Se) (hl : l.length ≤ 1000000) (hk : l.length < k) : rollcallref05_Same.f k l l = some true := by
 unfold rollcallref05_Same.f
 rw [if_pos rfl]
 exact sameSL l hl l.length k 0 (by omega) hk
theorem overQ_len (l : List Ch) : ∀ t : List Se, (overQ t l).length ≤ t.length + l.length := by
 induction l with
 | nil => intro t; exact Nat.le_refl _
 | cons c l ih =>
  intro t
  have h1 := setC_len t c
  have h2 := ih (setC t c)
  show (overQ (setC t c) l).length ≤ _
  simp only [List.length_cons]
  omega
theorem fewSL (l : List Se) (hl : l.length ≤ 1000000) : ∀ (d k j : Nat), j + d = l.length → d < k → ∃ b, rollcallref05_Few.l0 k l (j : Int) = some b := by
 intro d
 induction d with
 | zero =>
  intro k j hj hk
  obtain ⟨k, rfl⟩ : ∃ m, k = m + 1 := ⟨k - 1, by omega⟩
  rw [rollcallref05_Few.l0, if_neg (by omega)]
  exact ⟨_, rfl⟩
 | succ d ih =>
  intro k j hj hk
  obtain ⟨k, rfl⟩ : ∃ m, k = m + 1 := ⟨k - 1, by omega⟩
  rw [rollcallref05_Few.l0, if_pos (by omega), if_pos (by omega), wrap_succ j (by omega)]
  obtain ⟨b, hb⟩ := ih k (j + 1) (by omega) (by omega)
  split
  ·exact ⟨_, rfl⟩
  ·split
   ·exact ⟨_, rfl⟩
   ·exact ⟨b, hb⟩
theorem fewS_f (k : Nat) (l : List Se) (hk : 60 ≤ k) : ∃ q, rollcallref05_Few.f k l = some q ∧ (q = true → l.length ≤ 40) := by
 unfold rollcallref05_Few.f
 by_cases c : (l.length : Int) > 40
 ·rw [if_pos c]; exact ⟨_, rfl, fun h => by cases h⟩
 ·rw [if_neg c]
  obtain ⟨b, hb⟩ := fewSL l (by omega) l.length k 0 (by omega) (by omega)
  exact ⟨b, hb, fun _ => by omega⟩
end Go.Proofs.Ytmigglldahkngaa.XV17
end

section
-- Written by a program of this session (wip/tools/xprint.py), which drives the kit's print.
namespace Go.Proofs.Ytmigglldahkngaa.PA
open Go.RowKit Go.Proofs.YtmigglldahkngaaW.PrintWords Go.Proofs.YtmigglldahkngaaW.PrintLast Go.Proofs.YtmigglldahkngaaW.PrintMore Go.Proofs.Ytmigglldahkngaa.XQuiet
attribute [local go_sem] max2_int min2_int max_two min_two   -- for this text's walks alone
set_option linter.unusedVariables false
set_option linter.unusedSimpArgs false

/-! ### rollcallref05_May: function 27 -/
def rollcallref05_May.l0 : Nat → List (S72) → Int → Option (Bool)
 | 0, _, _ => none
 | k + 1, x0, x3 => if x3 < (x0.length : Int) then (if 0 ≤ x3 then ((rollcallref03_Is.f k ((rd_T72 x0 x3).f0)).bind fun t312 => (if t312 = true then ((rollcallref04_May.f k ((rd_T72 x0 x3).f1.f0) ((rd_T72 x0 x3).f1.f1) ((rd_T72 x0 x3).f1.f2) ((rd_T72 x0 x3).f1.f3)).bind fun t314 => (if t314 = true then (if x3 > 0 then (if 0 ≤ (wrap64 (x3 - 1)) then (if (wrap64 (x3 - 1)) < (x0.length : Int) then ((rollcallref03_Less.f ((rd_T72 x0 (wrap64 (x3 - 1))).f0) ((rd_T72 x0 x3).f0)).bind fun t317 => (if t317 = true then (rollcallref05_May.l0 k x0 (wrap64 (x3 + 1))) else (some false))) else (none)) else (none)) else (rollcallref05_May.l0 k x0 (wrap64 (x3 + 1)))) else (some false))) else (some false))) else (none)) else (some true)
def rollcallref05_May.f (k : Nat) (l0 : List (S72)) : Option (Bool) := if (l0.length : Int) > 32 then (some false) else (rollcallref05_May.l0 k l0 0)
set_option maxHeartbeats 8000000 in
set_option maxRecDepth 100000 in
theorem rollcallref05_May.calls (k : Nat) (A0 : Option Addr) (c0 : Nat) (l0 : List (S72)) (r : Bool) (w : World) (hr0 : Kd.C k72 w A0 l0.length l0) (hc0 : l0.length ≤ c0) (h : rollcallref05_May.f k l0 = some r) :
  Calls Try.prog 27 #[.slice A0 l0.length c0] w fun e w' => e = .returned (.bool r) ∧ Below w.heap.size w w' := by
 unfold rollcallref05_May.f at h
 have HR := Aside0.mk hr0
 clear hr0 hc0
 by_cases c : (l0.length : Int) > 32
 ·rw [if_pos c] at h
  obtain rfl := Option.some.inj h
  clear h
  go_enter Try.func27, Try.ntmps27
  have c' : (32 : Int) < (l0.length : Int) := c
  go_wp2
  go_ret
  exact ⟨rfl, Below.refl _ _⟩
 rw [if_neg c] at h
 have HH := Aside0.mk h
 have c' : (l0.length : Int) ≤ 32 := by omega
 clear h c
 go_enter Try.func27, Try.ntmps27
 have HB := Aside0.mk (Below.refl w.heap.size w)
 go_wp2
 go_loopg [3] k (fun g x wr => ∃ i : Nat, x = .int .i64 i ∧ i ≤ l0.length ∧ Aside0 (rollcallref05_May.l0 g l0 (i : Int) = some r) ∧ Aside0 (Below w.heap.size w wr))
 case atStart => exact ⟨0, rfl, Nat.zero_le _, HH, HB⟩
 case round =>
  obtain ⟨i, rfl, hi, hh, hb⟩ := hrel
  clear HH HB
  obtain ⟨g, rfl⟩ : ∃ g, gk = g + 1 := by
   cases gk with
   | zero => exact absurd hh.out (by simp [rollcallref05_May.l0])
   | succ g => exact ⟨g, rfl⟩
  have h := hh.out
  clear hh
  rw [rollcallref05_May.l0] at h
  by_cases hlt : (i : Int) < (l0.length : Int)
  ·rw [if_pos hlt, if_pos (by omega)] at h
   have hC := Kd.C_below HR.out hb.out
   obtain ⟨ad, he, h0, h1, h2, h3, h4⟩ := at_T72 hC (i : Int) (by omega) (by omega)
   subst he
   rw [Int.toNat_natCast] at h0 h1 h2 h3 h4
   have h0i : (0 : Int) ≤ (i : Int) := by omega
   generalize rd_T72 l0 (i : Int) = x at h h0 h1 h2 h3 h4
   rcases hI : rollcallref03_Is.f g x.f0 with _ | b1
   ·rw [hI] at h; exact absurd h (by simp)
   rw [hI] at h
   simp only [Option.bind_some] at h
   have d1 := fun u : Kin wr => rollcallref03_Is.calls g x.f0 b1 u.at' hI
   have y0 : ∀ u : Kin wr, u.at'.cell? _ = _ := Kin.cell h0
   have y1 : ∀ u : Kin wr, u.at'.cell? _ = _ := Kin.cell h1
   have y2 : ∀ u : Kin wr, u.at'.cell? _ = _ := Kin.cell h2
   have y3 : ∀ u : Kin wr, u.at'.cell? _ = _ := Kin.cell h3
   have y4 : ∀ u : Kin wr, u.at'.cell? _ = _ := Kin.cell h4
   clear hI
   cases b1 with
   | false =>
    rw [if_neg (by simp)] at h
    obtain rfl := Option.some.inj h
    go_wp2_with fail
    refine region_kin (by kernel_rfl) (by kernel_rfl) ?_
    repeat (go_big_quiet_step ((first | (go_at_call 56; first | exact Kin.call (d1 _) | exact Kin.same (d1 _) | exact Kin.call ((d1 _).mono fun _ _ q => ⟨q.1, q.2.below⟩)))))
    refine wpQuiet_nil ?_
    rintro w6 ⟨⟨_, b6⟩, rfl⟩
    have HX := Aside0.mk (below_step hb.out b6)
    clear hC h0 h1 h2 h3 h4 y0 y1 y2 y3 y4 d1 hb b6
    go_wp2
    go_ret
    exact ⟨rfl, HX.out⟩
   | true =>
    rw [if_pos rfl] at h
    rcases hJ : rollcallref04_May.f g x.f1.f0 x.f1.f1 x.f1.f2 x.f1.f3 with _ | b2
    ·rw [hJ] at h; exact absurd h (by simp)
    rw [hJ] at h
    simp only [Option.bind_some] at h
    have d2 := fun u : Kin wr => rollcallref04_May.calls g x.f1.f0 x.f1.f1 x.f1.f2 x.f1.f3 b2 u.at' hJ
    clear hJ
    cases b2 with
    | false =>
     rw [if_neg (by simp)] at h
     obtain rfl := Option.some.inj h
     go_wp2_with fail
     refine region_kin (by kernel_rfl) (by kernel_rfl) ?_
     repeat (go_big_quiet_step ((first | (go_at_call 56; first | exact Kin.call (d1 _) | exact Kin.same (d1 _) | exact Kin.call ((d1 _).mono fun _ _ q => ⟨q.1, q.2.below⟩)) | (go_at_call 57; first | exact Kin.call (d2 _) | exact Kin.same (d2 _) | exact Kin.call ((d2 _).mono fun _ _ q => ⟨q.1, q.2.below⟩)))))
     refine wpQuiet_nil ?_
     rintro w6 ⟨⟨_, b6⟩, rfl⟩
     have HX := Aside0.mk (below_step hb.out b6)
     clear hC h0 h1 h2 h3 h4 y0 y1 y2 y3 y4 d1 hb b6
     go_wp2
     go_ret
     exact ⟨rfl, HX.out⟩
    | true =>
     rw [if_pos rfl] at h
     by_cases hp : (i : Int) > 0
     rotate_left
     ·rw [if_neg hp] at h
      have hp' : ¬ (0 : Int) < (i : Int) := hp
      have hpd : decide ((0 : Int) < (i : Int)) = false := decide_eq_false hp'
      have hpn : decide (0 < i) = false := decide_eq_false (by omega)
      clear hp
      go_wp2_with fail
      refine region_kin (by kernel_rfl) (by kernel_rfl) ?_
      repeat (go_big_quiet_step ((first | (go_at_call 56; first | exact Kin.call (d1 _) | exact Kin.same (d1 _) | exact Kin.call ((d1 _).mono fun _ _ q => ⟨q.1, q.2.below⟩)) | (go_at_call 57; first | exact Kin.call (d2 _) | exact Kin.same (d2 _) | exact Kin.call ((d2 _).mono fun _ _ q => ⟨q.1, q.2.below⟩)))))
      refine wpQuiet_nil ?_
      rintro w6 ⟨⟨_, b6⟩, rfl⟩
      have HX := Aside0.mk (below_step hb.out b6)
      rw [show wrap64 ((i : Int) + 1) = ((i + 1 : Nat) : Int) by unfold wrap64; omega] at h
      have HN := Aside0.mk h
      have hw : IntKind.i64.wrap ((i : Int) + 1) = (i : Int) + 1 := by rw [IntKind.wrap_i64]; omega
      clear hC h0 h1 h2 h3 h4 y0 y1 y2 y3 y4 d1 hb b6 h
      go_wp2
      go_roundg g
      case measure => omega
      case rel => exact ⟨i + 1, by first | rfl | (congr 1), by omega, HN, HX⟩
     ·rw [if_pos hp] at h
      have hw1 : wrap64 ((i : Int) - 1) = ((i - 1 : Nat) : Int) := by unfold wrap64; omega
      have hw2 : IntKind.i64.wrap ((i : Int) - 1) = ((i - 1 : Nat) : Int) := by rw [IntKind.wrap_i64]; omega
      rw [hw1, if_pos (by omega), if_pos (by omega)] at h
      obtain ⟨ad2, he2, j0, _⟩ := at_T72 hC ((i - 1 : Nat) : Int) (by omega) (by omega)
      obtain rfl : ad = ad2 := by injection he2
      rw [Int.toNat_natCast] at j0
      have hp' : (0 : Int) < (i : Int) := hp
      have hpd : decide ((0 : Int) < (i : Int)) = true := decide_eq_true hp'
      have hpn : decide (0 < i) = true := decide_eq_true (by omega)
      have hq0 : (0 : Int) ≤ ((i - 1 : Nat) : Int) := by omega
      have hq1 : ((i - 1 : Nat) : Int) < (l0.length : Int) := by omega
      generalize rd_T72 l0 ((i - 1 : Nat) : Int) = y at h j0
      rcases hK : rollcallref03_Less.f y.f0 x.f0 with _ | b3
      ·rw [hK] at h; exact absurd h (by simp)
      rw [hK] at h
      simp only [Option.bind_some] at h
      have d3 := fun u : Kin wr => rollcallref03_Less.calls y.f0 x.f0 b3 u.at' hK
      have y5 : ∀ u : Kin wr, u.at'.cell? _ = _ := Kin.cell j0
      clear hK hp hw1 he2
      cases b3 with
      | false =>
       rw [if_neg (by simp)] at h
       obtain rfl := Option.some.inj h
       go_wp2_with fail
       refine region_kin (by kernel_rfl) (by kernel_rfl) ?_
       repeat (go_big_quiet_step ((first | (go_at_call 56; first | exact Kin.call (d1 _) | exact Kin.same (d1 _) | exact Kin.call ((d1 _).mono fun _ _ q => ⟨q.1, q.2.below⟩)) | (go_at_call 57; first | exact Kin.call (d2 _) | exact Kin.same (d2 _) | exact Kin.call ((d2 _).mono fun _ _ q => ⟨q.1, q.2.below⟩)) | (go_at_call 58; first | exact Kin.call (d3 _) | exact Kin.same (d3 _) | exact Kin.call ((d3 _).mono fun _ _ q => ⟨q.1, q.2.below⟩)))))
       refine wpQuiet_nil ?_
       rintro w6 ⟨⟨_, b6⟩, rfl⟩
       have HX := Aside0.mk (below_step hb.out b6)
       clear hC h0 h1 h2 h3 h4 y0 y1 y2 y3 y4 d1 hb b6
       go_wp2
       go_ret
       exact ⟨rfl, HX.out⟩
      | true =>
       rw [if_pos rfl] at h
       go_wp2_with fail
       refine region_kin (by kernel_rfl) (by kernel_rfl) ?_
       repeat (go_big_quiet_step ((first | (go_at_call 56; first | exact Kin.call (d1 _) | exact Kin.same (d1 _) | exact Kin.call ((d1 _).mono fun _ _ q => ⟨q.1, q.2.below⟩)) | (go_at_call 57; first | exact Kin.call (d2 _) | exact Kin.same (d2 _) | exact Kin.call ((d2 _).mono fun _ _ q => ⟨q.1, q.2.below⟩)) | (go_at_call 58; first | exact Kin.call (d3 _) | exact Kin.same (d3 _) | exact Kin.call ((d3 _).mono fun _ _ q => ⟨q.1, q.2.below⟩)))))
       refine wpQuiet_nil ?_
       rintro w6 ⟨⟨_, b6⟩, rfl⟩
       have HX := Aside0.mk (below_step hb.out b6)
       rw [show wrap64 ((i : Int) + 1) = ((i + 1 : Nat) : Int) by unfold wrap64; omega] at h
       have HN := Aside0.mk h
       have hw : IntKind.i64.wrap ((i : Int) + 1) = (i : Int) + 1 := by rw [IntKind.wrap_i64]; omega
       clear hC h0 h1 h2 h3 h4 y0 y1 y2 y3 y4 d1 hb b6 h
       go_wp2
       go_roundg g
       case measure => omega
       case rel => exact ⟨i + 1, by first | rfl | (congr 1), by omega, HN, HX⟩
  ·rw [if_neg hlt] at h
   obtain rfl := Option.some.inj h
   have hlt' : (l0.length : Int) ≤ (i : Int) := by omega
   have hnd : decide ((i : Int) < (l0.length : Int)) = false := decide_eq_false hlt
   clear h hlt
   go_wp2
   go_ret
   exact ⟨rfl, hb.out⟩
end Go.Proofs.Ytmigglldahkngaa.PA
end

section
/- Tables in order: what is set for unlike contacts may be set in either order; what is set anew for one contact stands alone. -/
namespace Go.Proofs.Ytmigglldahkngaa.XV17
open Go.RowKit Go.Proofs.Ytmigglldahkngaa.PA Go.Proofs.YtmigglldahkngaaW.PrintWords Go.Proofs.YtmigglldahkngaaW.PrintLast Go.Proofs.Ytmigglldahkngaa.XGen
open Go.Proofs.Ytmigglldahkngaa.XPlace (idx is)
open Go.Proofs.Ytmigglldahkngaa.XSet (atL setL)
open Go.Proofs.Ytmigglldahkngaa.XIns (insL insL_len)
open Go.Proofs.Ytmigglldahkngaa.XLess (lessB)
set_option linter.unusedVariables false
set_option linter.unusedSimpArgs false
theorem wrap_pred (j : Nat) (h : 0 < j) (h2 : j < 1000000000) : wrap64 ((j : Int) - 1) = ((j - 1 : Nat) : Int) := by
 rw [show ((j : Int) - 1) = ((j - 1 : Nat) : Int) by omega]
 unfold wrap64; omega
theorem bl_irr : ∀ a : List UInt8, Op.bytesLess a a = false
 | [] => rfl
 | x :: a => by rw [Op.bytesLess]; simp [bl_irr a]
theorem bl_trans : ∀ a b c : List UInt8, Op.bytesLess a b = true → Op.bytesLess b c = true → Op.bytesLess a c = true
 | [], [], _, h, _ => by simp [Op.bytesLess] at h
 | _ :: _, [], _, h, _ => by simp [Op.bytesLess] at h
 | [], _ :: _, [], _, h => by simp [Op.bytesLess] at h
 | _ :: _, _ :: _, [], _, h => by simp [Op.bytesLess] at h
 | [], _ :: _, _ :: _, _, _ => by simp [Op.bytesLess]
 | x :: a, y :: b, z :: c, h, g => by
  rw [Op.bytesLess] at h g ⊢
  simp only [Bool.or_eq_true, Bool.and_eq_true, decide_eq_true_eq, beq_iff_eq] at h g ⊢
  have ih := bl_trans a b c
  rcases h with h | ⟨h, h'⟩ <;> rcases g with g | ⟨g, g'⟩
  ·exact Or.inl (UInt8.lt_trans h g)
  ·subst g; exact Or.inl h
  ·subst h; exact Or.inl g
  ·subst h; subst g; exact Or.inr ⟨rfl, ih h' g'⟩
theorem less_iff (a b : ByteArray) : lessB a b = true ↔ a.size < b.size ∨ (a.size = b.size ∧ Op.bytesLess a.data.toList b.data.toList = true) := by
 unfold lessB XLess.ordI XLess.orI XLess.cmpI XLess.byBytes
 rw [less_bytes]
 by_cases c : (a.size : Int) < (b.size : Int)
 ·rw [if_pos c]; simp; omega
 ·rw [if_neg c]
  by_cases d : (a.size : Int) = (b.size : Int)
  ·rw [if_neg (by omega)]; simp; omega
  ·rw [if_pos (by omega)]; simp; omega
theorem lessB_trans {a b c : ByteArray} (h : lessB a b = true) (g : lessB b c = true) : lessB a c = true := by
 rw [less_iff] at *
 rcases h with h | ⟨h, h'⟩ <;> rcases g with g | ⟨g, g'⟩
 ·exact Or.inl (by omega)
 ·exact Or.inl (by omega)
 ·exact Or.inl (by omega)
 ·exact Or.inr ⟨by omega, bl_trans _ _ _ h' g'⟩
def Srt (t : List Se) : Prop := t.Pairwise fun x y => lessB x.f0 y.f0 = true
theorem isT_iff (n : ByteArray) (x : Se) : XDel.is n x = true ↔ x.f0 = n := by simp [XDel.is, toList_inj]
def rowC (c : Ch) : Se := ⟨c.f0, ⟨c.f2.f0, c.f2.f1, c.f2.f2, c.f2.f3⟩⟩
theorem srt_of (t : List Se) (h : ∀ (i : Nat) (hi : i < t.length), 0 < i → lessB (t[i - 1]'(by omega)).f0 t[i].f0 = true) : Srt t := by
 refine List.pairwise_iff_getElem.2 fun i j hi hj hij => ?_
 induction j with
 | zero => omega
 | succ j ih =>
  have h1 := h (j + 1) hj (by omega)
  by_cases e : i = j
  ·subst e; exact h1
  ·exact lessB_trans (ih (by omega) (by omega)) h1
end Go.Proofs.Ytmigglldahkngaa.XV17
end

section
/- Two changes pushed in either order, in plain lists. -/
namespace Go.Proofs.Ytmigglldahkngaa.XV17
open Go.RowKit Go.Proofs.Ytmigglldahkngaa.PA Go.Proofs.YtmigglldahkngaaW.PrintWords Go.Proofs.YtmigglldahkngaaW.PrintLast Go.Proofs.Ytmigglldahkngaa.XGen
open Go.Proofs.Ytmigglldahkngaa.XPlace (idx is)
set_option linter.unusedVariables false
set_option linter.unusedSimpArgs false
theorem is_own (x : Ch) : is x.f0 x = true := is_iff.2 rfl
theorem PU_lat (l : List Ch) (c : Ch) (room : Int) : PU l true c room = (l, true) := by unfold PU; rw [if_pos rfl]
end Go.Proofs.Ytmigglldahkngaa.XV17
end

section
/- law17's QueueLast in plain lists: what was told, with what waits over it, is what all changes make. -/
namespace Go.Proofs.Ytmigglldahkngaa.XV17
open Go.RowKit Go.Proofs.Ytmigglldahkngaa.PA Go.Proofs.YtmigglldahkngaaW.PrintWords Go.Proofs.YtmigglldahkngaaW.PrintLast Go.Proofs.Ytmigglldahkngaa.XGen
open Go.Proofs.Ytmigglldahkngaa.XPlace (idx is)
open Go.Proofs.Ytmigglldahkngaa.XIdent (isB okAt)
set_option linter.unusedVariables false
set_option linter.unusedSimpArgs false
theorem overQ_app (t : List Se) (a b : List Ch) : overQ t (a ++ b) = overQ (overQ t a) b := by unfold overQ; rw [List.foldl_append]
theorem overQ_cons (t : List Se) (x : Ch) (l : List Ch) : overQ t (x :: l) = overQ (setC t x) l := rfl
end Go.Proofs.Ytmigglldahkngaa.XV17
end

section
-- Written by a program of this session (wip/tools/xprint.py), which drives the kit's print.
namespace Go.Proofs.Ytmigglldahkngaa.PA
open Go.RowKit Go.Proofs.YtmigglldahkngaaW.PrintWords Go.Proofs.YtmigglldahkngaaW.PrintLast Go.Proofs.YtmigglldahkngaaW.PrintMore
attribute [local go_sem] max2_int min2_int max_two min_two   -- for this text's walks alone
set_option linter.unusedVariables false
set_option linter.unusedSimpArgs false

/-! ### rollcallref17_Pop: function 54 -/
def rollcallref17_Pop.B3 : List Nat := [0, 1, 3, 7, 0, 16, 48, 0, 128, 496, 15, 2047, 4095]
end Go.Proofs.Ytmigglldahkngaa.PA
end

section
/- What the reference's functions of queue answer, over plain lists: pushes, pops, tables. -/
namespace Go.Proofs.Ytmigglldahkngaa.XV17
open Go.RowKit Go.Proofs.Ytmigglldahkngaa.PA Go.Proofs.YtmigglldahkngaaW.PrintWords Go.Proofs.YtmigglldahkngaaW.PrintLast Go.Proofs.Ytmigglldahkngaa.XGen
open Go.Proofs.Ytmigglldahkngaa.XPlace (idx is)
open Go.Proofs.Ytmigglldahkngaa.XSet (atL setL)
open Go.Proofs.Ytmigglldahkngaa.XIns (insL insL_len)
open Go.Proofs.Ytmigglldahkngaa.XLess (lessB)
set_option linter.unusedVariables false
set_option linter.unusedSimpArgs false
def isS (n : ByteArray) (x : Se) : Bool := x.f0.toList == n.toList
theorem refSet1 (n : ByteArray) (a b c : Int) (s : ByteArray) (rest : List Se) (hr : rest.length < 1000000) : ∀ (d k j at_ : Nat), j + d = rest.length → d < k → at_ ≤ j →
  rollcallref05_Set.l1 k rest (at_ : Int) (j : Int) n true a b c s = some (insL rest (atL n (rest.drop j) j at_) ⟨n, ⟨a, b, c, s⟩⟩) := by
 intro d
 induction d with
 | zero =>
  intro k j p hj hk hp
  obtain ⟨k, rfl⟩ : ∃ m, k = m + 1 := ⟨k - 1, by omega⟩
  rw [rollcallref05_Set.l1, if_neg (by omega), show rest.drop j = [] from List.drop_eq_nil_of_le (by omega)]
  simp only [Option.bind_some, List.nil_append, List.length_nil, Nat.zero_add, Int.toNat_natCast, atL]
  rw [if_pos (by omega), if_pos (by omega), if_pos (by rw [List.length_take]; omega), if_pos (by rw [List.length_take]; omega), if_pos (by simp only [List.length_append, List.length_take, List.length_drop, List.length_cons, List.length_nil]; omega)]
  simp [insL]
 | succ d ih =>
  intro k j p hj hk hp
  obtain ⟨k, rfl⟩ : ∃ m, k = m + 1 := ⟨k - 1, by omega⟩
  rw [rollcallref05_Set.l1, if_pos (by omega), if_pos (by omega), rdS_at rest j (by omega), refLess_b, drop_get rest j (by omega), atL]
  simp only [Option.bind_some]
  by_cases c : lessB rest[j].f0 n = true
  ·rw [if_pos c, if_pos c, wrap_succ j (by omega)]
   exact ih k (j + 1) (j + 1) (by omega) (by omega) (Nat.le_refl _)
  ·rw [if_neg c, if_neg c, wrap_succ j (by omega)]
   exact ih k (j + 1) p (by omega) (by omega) (by omega)
theorem refSet0 (n : ByteArray) (on : Bool) (a b c : Int) (s : ByteArray) (t : List Se) (ht : t.length < 1000000) : ∀ (d k j : Nat) (acc : List Se), j + d = t.length → d + t.length + 2 < k → acc.length ≤ j →
  rollcallref05_Set.l0 k t acc (j : Int) n on a b c s = some (if on = true then insL (acc ++ (t.drop j).filter fun x => !isS n x) (atL n (acc ++ (t.drop j).filter fun x => !isS n x) 0 0) ⟨n, ⟨a, b, c, s⟩⟩ else acc ++ (t.drop j).filter fun x => !isS n x) := by
 intro d
 induction d with
 | zero =>
  intro k j acc hj hk ha
  obtain ⟨k, rfl⟩ : ∃ m, k = m + 1 := ⟨k - 1, by omega⟩
  rw [rollcallref05_Set.l0, if_neg (by omega), List.drop_eq_nil_of_le (by omega), List.filter_nil, List.append_nil]
  cases on with
  | true =>
   rw [if_pos rfl, if_pos rfl]
   have := refSet1 n a b c s acc (by omega) acc.length k 0 0 (by omega) (by omega) (Nat.le_refl _)
   rw [List.drop_zero] at this
   exact this
  | false => rw [if_neg (by simp), if_neg (by simp)]
 | succ d ih =>
  intro k j acc hj hk ha
  obtain ⟨k, rfl⟩ : ∃ m, k = m + 1 := ⟨k - 1, by omega⟩
  rw [rollcallref05_Set.l0, if_pos (by omega), if_pos (by omega), rdS_at t j (by omega), wrap_succ j (by omega), drop_get t j (by omega)]
  by_cases q : t[j].f0.toList = n.toList
  ·rw [if_pos q, ih k (j + 1) acc (by omega) (by omega) (by omega)]
   have e : isS n t[j] = true := by simpa [isS] using q
   rw [List.filter_cons, e]
   rfl
  ·rw [if_neg q, if_pos (by omega), ih k (j + 1) _ (by omega) (by omega) (by simp; omega)]
   have e : isS n t[j] = false := by simpa [isS] using q
   rw [List.filter_cons, e, List.append_assoc]
   rfl
theorem refSet_b (k : Nat) (t : List Se) (c : Ch) (ht : t.length < 1000000) (hk : 2 * t.length + 2 < k) : rollcallref05_Set.f k t c.f0 c.f1 c.f2.f0 c.f2.f1 c.f2.f2 c.f2.f3 = some (setL t c.f0 c.f1 c.f2.f0 c.f2.f1 c.f2.f2 c.f2.f3) := by
 unfold rollcallref05_Set.f setL
 have := refSet0 c.f0 c.f1 c.f2.f0 c.f2.f1 c.f2.f2 c.f2.f3 t ht t.length k 0 [] (by omega) (by omega) (Nat.le_refl _)
 rw [List.drop_zero, List.nil_append] at this
 exact this
theorem refOverL (l : List Ch) (lat : Bool) (hl : l.length ≤ 1000) : ∀ (d k j : Nat) (t : List Se), j + d = l.length → d + 2 * (t.length + d) + 10 < k → t.length + d < 900000 → rollcallref17_Over.l0 k t (j : Int) l lat = some (overQ t (l.drop j)) := by
 intro d
 induction d with
 | zero =>
  intro k j t hj hk ht
  obtain ⟨k, rfl⟩ : ∃ m, k = m + 1 := ⟨k - 1, by omega⟩
  rw [rollcallref17_Over.l0, if_neg (by omega), List.drop_eq_nil_of_le (by omega)]
  rfl
 | succ d ih =>
  intro k j t hj hk ht
  obtain ⟨k, rfl⟩ : ∃ m, k = m + 1 := ⟨k - 1, by omega⟩
  rw [rollcallref17_Over.l0, if_pos (by omega), if_pos (by omega), rd_at l j (by omega), drop_get l j (by omega), refSet_b k t l[j] (by omega) (by omega)]
  simp only [Option.bind_some]
  have := setC_len t l[j]
  unfold setC at this
  rw [wrap_succ j (by omega), ih k (j + 1) _ (by omega) (by omega) (by omega)]
  rfl
theorem refOver_b (k : Nat) (t : List Se) (l : List Ch) (lat : Bool) (hl : l.length ≤ 1000) (ht : t.length ≤ 1000) (hk : 6010 < k) : rollcallref17_Over.f k t l lat = some (overQ t l) := by
 have := refOverL l lat hl l.length k 0 t (by omega) (by omega) (by omega)
 rw [List.drop_zero] at this
 exact this
end Go.Proofs.Ytmigglldahkngaa.XV17
end

section
-- Written by a program of this session (wip/tools/xprint.py), which drives the kit's print.
namespace Go.Proofs.Ytmigglldahkngaa.PA
open Go.RowKit Go.Proofs.YtmigglldahkngaaW.PrintWords Go.Proofs.YtmigglldahkngaaW.PrintLast Go.Proofs.YtmigglldahkngaaW.PrintMore
attribute [local go_sem] max2_int min2_int max_two min_two   -- for this text's walks alone
set_option linter.unusedVariables false
set_option linter.unusedSimpArgs false

/-! ### rollcallref05_Put: function 59 -/
def rollcallref05_Put.l0 : Nat → List (S72) → ByteArray → Int → Option (ByteArray × Bool)
 | 0, _, _, _ => none
 | k + 1, x0, x4, x5 => if x5 < (x0.length : Int) then (if 0 ≤ x5 then ((rollcallref03_Put.f k ((rd_T72 x0 x5).f0)).bind fun bt340 => ((rollcallref04_Put.f k ((rd_T72 x0 x5).f1.f0) ((rd_T72 x0 x5).f1.f1) ((rd_T72 x0 x5).f1.f2) ((rd_T72 x0 x5).f1.f3)).bind fun bt343 => (if x4.size + bt340.1.size ≤ 9223372036854775807 then (if (x4 ++ bt340.1).size + bt343.1.size ≤ 9223372036854775807 then (rollcallref05_Put.l0 k x0 ((x4 ++ bt340.1) ++ bt343.1) (wrap64 (x5 + 1))) else (none)) else (none)))) else (none)) else (some (x4, true))
def rollcallref05_Put.f (k : Nat) (l0 : List (S72)) : Option (ByteArray × Bool) := (rollcallref05_May.f k l0).bind fun t337 => (if t337 = true then ((rollcallref01_Put.f k (IntKind.u64.wrap ((l0.length : Int)))).bind fun t338 => (rollcallref05_Put.l0 k l0 t338 0)) else (some ((⟨#[]⟩ : ByteArray), false)))
set_option maxHeartbeats 8000000 in
set_option maxRecDepth 100000 in
theorem rollcallref05_Put.calls (k : Nat) (A0 : Option Addr) (c0 : Nat) (l0 : List (S72)) (r1 : ByteArray) (r2 : Bool) (w : World) (hr0 : Kd.C k72 w A0 l0.length l0) (hc0 : l0.length ≤ c0) (h : rollcallref05_Put.f k l0 = some (r1, r2)) :
  Calls Try.prog 59 #[.slice A0 l0.length c0] w fun e w' => e = .returned (.tuple #[.string r1, .bool r2]) ∧ Below w.heap.size w w' := by
 have hu32 := Try.underlying32
 have HR0 := Aside0.mk hr0
 have HC0 := Aside0.mk hc0
 clear hr0 hc0
 have HB := Aside0.mk (Below.refl w.heap.size w)
 have H : ((rollcallref05_May.f k l0).bind fun t337 => (if t337 = true then ((rollcallref01_Put.f k (IntKind.u64.wrap ((l0.length : Int)))).bind fun t338 => (rollcallref05_Put.l0 k l0 t338 0)) else (some ((⟨#[]⟩ : ByteArray), false)))) = some (r1, r2) := h
 clear h
 replace H := Option.bind_eq_some_iff.mp H
 obtain ⟨t337, A20, H⟩ := H
 replace H : (if t337 = true then ((rollcallref01_Put.f k (IntKind.u64.wrap ((l0.length : Int)))).bind fun t338 => (rollcallref05_Put.l0 k l0 t338 0)) else (some ((⟨#[]⟩ : ByteArray), false))) = some (r1, r2) := H
 have A2 := Aside0.mk A20
 clear A20
 by_cases c3 : t337 = true
 ·subst c3
  have H1 : ((rollcallref01_Put.f k (IntKind.u64.wrap ((l0.length : Int)))).bind fun t338 => (rollcallref05_Put.l0 k l0 t338 0)) = some (r1, r2) := by rw [if_pos rfl] at H; exact H
  clear H
  have H := H1
  clear H1
  replace H := Option.bind_eq_some_iff.mp H
  obtain ⟨t338, A40, H⟩ := H
  replace H : (rollcallref05_Put.l0 k l0 t338 0) = some (r1, r2) := H
  have A4 := Aside0.mk A40
  clear A40
  have H' := Aside0.mk H
  clear H
  go_enter Try.func59, Try.ntmps59
  go_wp2_with (first | ((with_reducible refine gate_callee (f := 27) rfl ?_); refine goesL_ (some 11) rfl rfl Try.func27 (by kernel_rfl) rfl #[.slice A0 l0.length c0] rfl (by (try simp only [List.map_toArray, List.map_cons, List.map_nil]); first | done | rfl | (simp only [List.length_drop, List.length_take]; rfl)) ?_; (with_reducible refine (rollcallref05_May.calls k _ _ l0 true _ ?side1 ?side2 A2.out).mono ?_); (case side1 => repeat (first | exact HR0.out | (with_reducible refine Kd.C_alloc ?_ _) | (with_reducible refine Kd.C_drewN ?_ _) | (with_reducible refine Kd.C_drew ?_))); (case side2 => exact HC0.out); rintro e w5 ⟨rfl, hb⟩; refine ⟨_, rfl, ?_⟩; replace HB := Aside0.mk (below_step (hS HB.out) hb); (try clear hb); (try clear hb2); (try clear hk); (try clear hi)) | ((with_reducible refine gate_callee (f := 78) rfl ?_); refine goesL_ (some 16) rfl rfl Try.func78 (by kernel_rfl) rfl #[.int .u64 (IntKind.u64.wrap ((l0.length : Int)))] rfl (by (try simp only [List.map_toArray, List.map_cons, List.map_nil]); first | done | rfl | (simp only [List.length_drop, List.length_take]; rfl)) ?_; (with_reducible refine (rollcallref01_Put.calls k (IntKind.u64.wrap ((l0.length : Int))) t338 _ A4.out).mono ?_); rintro e w6 ⟨rfl, hb⟩; refine ⟨_, rfl, ?_⟩; replace HB := Aside0.mk (below_step (hS HB.out) hb); (try clear hb); (try clear hb2); (try clear hk); (try clear hi)))
  go_loopg [4, 5] k (fun kq v4 v5 w' => ∃ (x4_1 : ByteArray) (x5_1 : Int), v4 = .string x4_1 ∧ v5 = .int .i64 x5_1 ∧ Aside0 (rollcallref05_Put.l0 kq l0 x4_1 x5_1 = some (r1, r2)) ∧ Aside0 (kq ≤ k) ∧ Aside0 (Below w.heap.size w w'))
  case atStart => exact ⟨(t338), (0), (by first | rfl | (simp; done) | (simp [*]; done)), (by first | rfl | (simp; done) | (simp [*]; done)), H', ⟨Nat.le_refl _⟩, ⟨by repeat (first | (with_reducible first | exact HB.out | apply below_alloc | apply pw_below_drewN | apply below_drew1) | exact HB.out)⟩⟩
  case round =>
   clear H'
   try clear c2
   try clear p2
   try clear c3
   try clear c5
   obtain ⟨x4_1, x5_1, rfl, rfl, HA, HK1, HB⟩ := hrel
   cases gk with
   | zero => exact absurd HA.out (by simp [rollcallref05_Put.l0])
   | succ k1 =>
    have H := HA.out
    clear HA
    simp only [rollcallref05_Put.l0] at H
    by_cases c7 : x5_1 < (l0.length : Int)
    ·rw [if_pos c7] at H
     have c7b0 : decide (x5_1 < (l0.length : Int)) = true := decide_eq_true c7
     clear c7
     by_cases c8 : 0 ≤ x5_1
     ·rw [if_pos c8] at H
      have c8b0 : decide (0 ≤ x5_1) = true := decide_eq_true c8
      clear c8
      replace H := Option.bind_eq_some_iff.mp H
      obtain ⟨⟨t340, t341⟩, A90, H⟩ := H
      replace H : ((rollcallref04_Put.f k1 ((rd_T72 l0 x5_1).f1.f0) ((rd_T72 l0 x5_1).f1.f1) ((rd_T72 l0 x5_1).f1.f2) ((rd_T72 l0 x5_1).f1.f3)).bind fun bt343 => (if x4_1.size + t340.size ≤ 9223372036854775807 then (if (x4_1 ++ t340).size + bt343.1.size ≤ 9223372036854775807 then (rollcallref05_Put.l0 k1 l0 ((x4_1 ++ t340) ++ bt343.1) (wrap64 (x5_1 + 1))) else (none)) else (none))) = some (r1, r2) := H
      have A9 := Aside0.mk A90
      clear A90
      replace H := Option.bind_eq_some_iff.mp H
      obtain ⟨⟨t343, t344⟩, A100, H⟩ := H
      replace H : (if x4_1.size + t340.size ≤ 9223372036854775807 then (if (x4_1 ++ t340).size + t343.size ≤ 9223372036854775807 then (rollcallref05_Put.l0 k1 l0 ((x4_1 ++ t340) ++ t343) (wrap64 (x5_1 + 1))) else (none)) else (none)) = some (r1, r2) := H
      have A10 := Aside0.mk A100
      clear A100
      by_cases c11 : x4_1.size + t340.size ≤ 9223372036854775807
      ·rw [if_pos c11] at H
       have c11b0 := eq_true c11
       have c11b1 : decide (x4_1.size + t340.size ≤ 9223372036854775807) = true := decide_eq_true c11
       try have c11b2 : (9223372036854775807 < x4_1.size + t340.size) = False := eq_false (Nat.not_lt.2 c11)
       (try (have c11b3 := c11b0; simp only [ByteArray.size_append] at c11b3))
       (try (have c11b4 := c11b2; simp only [ByteArray.size_append] at c11b4))
       clear c11
       by_cases c12 : (x4_1 ++ t340).size + t343.size ≤ 9223372036854775807
       ·rw [if_pos c12] at H
        have c12b0 := eq_true c12
        have c12b1 : decide ((x4_1 ++ t340).size + t343.size ≤ 9223372036854775807) = true := decide_eq_true c12
        try have c12b2 : (9223372036854775807 < (x4_1 ++ t340).size + t343.size) = False := eq_false (Nat.not_lt.2 c12)
        (try (have c12b3 := c12b0; simp only [ByteArray.size_append] at c12b3))
        (try (have c12b4 := c12b2; simp only [ByteArray.size_append] at c12b4))
        clear c12
        have H' := Aside0.mk H
        clear H
        have p339 : 0 ≤ (x5_1 : Int) := of_decide_eq_true (by first | (with_reducible assumption) | assumption)
        have q339 : x5_1 < (l0.length : Int) := of_decide_eq_true (by first | (with_reducible assumption) | assumption)
        obtain ⟨ad339, e339, hx339_0, hx339_1, hx339_2, hx339_3, hx339_4⟩ := at_T72 HR0.out x5_1 p339 q339
        cases e339
        replace hx339_0 := (HB.out.cell (World.block_lt_of_cell? w _ hx339_0)).trans hx339_0
        replace hx339_1 := (HB.out.cell (World.block_lt_of_cell? w _ hx339_1)).trans hx339_1
        replace hx339_2 := (HB.out.cell (World.block_lt_of_cell? w _ hx339_2)).trans hx339_2
        replace hx339_3 := (HB.out.cell (World.block_lt_of_cell? w _ hx339_3)).trans hx339_3
        replace hx339_4 := (HB.out.cell (World.block_lt_of_cell? w _ hx339_4)).trans hx339_4
        replace p339 := eq_true p339
        replace q339 := eq_true q339
        go_wp2_with (first | ((with_reducible refine gate_callee (f := 79) rfl ?_); refine goesL_ (some 29) rfl rfl Try.func79 (by kernel_rfl) rfl #[.string ((rd_T72 l0 x5_1).f0)] rfl (by (try simp only [List.map_toArray, List.map_cons, List.map_nil]); first | done | rfl | (simp only [List.length_drop, List.length_take]; rfl)) ?_; (with_reducible refine (rollcallref03_Put.calls k1 ((rd_T72 l0 x5_1).f0) t340 t341 _ A9.out).mono ?_); rintro e w13 ⟨rfl, hb⟩; refine ⟨_, rfl, ?_⟩; replace HB := Aside0.mk (below_step (hS HB.out) hb); (try clear hb); (try clear hb2); (try clear hk); (try clear hi); have p342 : 0 ≤ (x5_1 : Int) := of_decide_eq_true (by first | (with_reducible assumption) | assumption); have q342 : x5_1 < (l0.length : Int) := of_decide_eq_true (by first | (with_reducible assumption) | assumption); obtain ⟨ad342, e342, hx342_0, hx342_1, hx342_2, hx342_3, hx342_4⟩ := at_T72 HR0.out x5_1 p342 q342; obtain rfl : ad339 = ad342 := (by injection e342); replace hx342_0 := (HB.out.cell (World.block_lt_of_cell? w _ hx342_0)).trans hx342_0; replace hx342_1 := (HB.out.cell (World.block_lt_of_cell? w _ hx342_1)).trans hx342_1; replace hx342_2 := (HB.out.cell (World.block_lt_of_cell? w _ hx342_2)).trans hx342_2; replace hx342_3 := (HB.out.cell (World.block_lt_of_cell? w _ hx342_3)).trans hx342_3; replace hx342_4 := (HB.out.cell (World.block_lt_of_cell? w _ hx342_4)).trans hx342_4; replace p342 := eq_true p342; replace q342 := eq_true q342) | ((with_reducible refine gate_callee (f := 80) rfl ?_); refine goesL_ (some 38) rfl rfl Try.func80 (by kernel_rfl) rfl #[.agg #[.int .i64 ((rd_T72 l0 x5_1).f1.f0), .int .i64 ((rd_T72 l0 x5_1).f1.f1), .int .i64 ((rd_T72 l0 x5_1).f1.f2), .string ((rd_T72 l0 x5_1).f1.f3)]] rfl (by (try simp only [List.map_toArray, List.map_cons, List.map_nil]); first | done | rfl | (simp only [List.length_drop, List.length_take]; rfl)) ?_; (with_reducible refine (rollcallref04_Put.calls k1 ((rd_T72 l0 x5_1).f1.f0) ((rd_T72 l0 x5_1).f1.f1) ((rd_T72 l0 x5_1).f1.f2) ((rd_T72 l0 x5_1).f1.f3) t343 t344 _ A10.out).mono ?_); rintro e w14 ⟨rfl, hb⟩; refine ⟨_, rfl, ?_⟩; replace HB := Aside0.mk (below_step (hS HB.out) hb); (try clear hb); (try clear hb2); (try clear hk); (try clear hi)))
        go_roundg k1
        case measure => have := HK1.out; omega
        case rel => exact ⟨((x4_1 ++ t340) ++ t343), (wrap64 (x5_1 + 1)), (by first | rfl | (simp; done) | (simp [*]; done)), (by first | rfl | (simp; done) | (simp [*]; done)), H', ⟨by have := HK1.out; omega⟩, ⟨by repeat (first | (with_reducible first | exact HB.out | apply below_alloc | apply pw_below_drewN | apply below_drew1) | exact HB.out)⟩⟩
       ·rw [if_neg c12] at H
        exact absurd H (by simp)
      ·rw [if_neg c11] at H
       exact absurd H (by simp)
     ·rw [if_neg c8] at H
      exact absurd H (by simp)
    ·rw [if_neg c7] at H
     have c7b0 : decide (x5_1 < (l0.length : Int)) = false := decide_eq_false c7
     clear c7
     simp only [Option.some.injEq, Prod.mk.injEq] at H
     obtain ⟨rfl, rfl⟩ := H
     go_wp2
     go_ret2
     exact ⟨by first | rfl | (simp [errW_none, errW_some] <;> rfl) | (simp [*, errW_none, errW_some] <;> rfl), by repeat (first | (with_reducible first | exact HB.out | apply below_alloc | apply pw_below_drewN | apply below_drew1) | exact HB.out)⟩
 ·replace c3 := Bool.eq_false_iff.mpr c3
  subst c3
  have H1 : (some ((⟨#[]⟩ : ByteArray), false)) = some (r1, r2) := by rw [if_neg (show ¬ (false = true) by decide)] at H; exact H
  clear H
  have H := H1
  clear H1
  simp only [Option.some.injEq, Prod.mk.injEq] at H
  obtain ⟨rfl, rfl⟩ := H
  go_enter Try.func59, Try.ntmps59
  go_wp2_with (first | ((with_reducible refine gate_callee (f := 27) rfl ?_); refine goesL_ (some 11) rfl rfl Try.func27 (by kernel_rfl) rfl #[.slice A0 l0.length c0] rfl (by (try simp only [List.map_toArray, List.map_cons, List.map_nil]); first | done | rfl | (simp only [List.length_drop, List.length_take]; rfl)) ?_; (with_reducible refine (rollcallref05_May.calls k _ _ l0 false _ ?side1 ?side2 A2.out).mono ?_); (case side1 => repeat (first | exact HR0.out | (with_reducible refine Kd.C_alloc ?_ _) | (with_reducible refine Kd.C_drewN ?_ _) | (with_reducible refine Kd.C_drew ?_))); (case side2 => exact HC0.out); rintro e w15 ⟨rfl, hb⟩; refine ⟨_, rfl, ?_⟩; replace HB := Aside0.mk (below_step (hS HB.out) hb); (try clear hb); (try clear hb2); (try clear hk); (try clear hi)))
  go_ret2
  exact ⟨by first | rfl | (simp [errW_none, errW_some] <;> rfl) | (simp [*, errW_none, errW_some] <;> rfl), by repeat (first | (with_reducible first | exact HB.out | apply below_alloc | apply pw_below_drewN | apply below_drew1) | exact HB.out)⟩

/-! ### rollcallref05_Sum: function 33 -/
def rollcallref05_Sum.l0 : Nat → ByteArray → Int → Int → Option (Int)
 | 0, _, _, _ => none
 | k + 1, x3, x5, x6 => if x6 < (x3.size : Int) then (if 0 ≤ x6 then (rollcallref05_Sum.l0 k x3 (IntKind.u64.wrap ((Go.bits .xor .u64 x5 (IntKind.u64.wrap (bt x3 x6))) * 1099511628211)) (wrap64 (x6 + 1))) else (none)) else (some x5)
def rollcallref05_Sum.f (k : Nat) (l0 : List (S72)) : Option (Int) := (rollcallref05_Put.f k l0).bind fun bt345 => (rollcallref05_Sum.l0 k bt345.1 14695981039346656037 0)
set_option maxHeartbeats 8000000 in
set_option maxRecDepth 100000 in
theorem rollcallref05_Sum.calls (k : Nat) (A0 : Option Addr) (c0 : Nat) (l0 : List (S72)) (r : Int) (w : World) (hr0 : Kd.C k72 w A0 l0.length l0) (hc0 : l0.length ≤ c0) (h : rollcallref05_Sum.f k l0 = some r) :
  Calls Try.prog 33 #[.slice A0 l0.length c0] w fun e w' => e = .returned (.int .u64 r) ∧ Below w.heap.size w w' := by
 have HR0 := Aside0.mk hr0
 have HC0 := Aside0.mk hc0
 clear hr0 hc0
 have HB := Aside0.mk (Below.refl w.heap.size w)
 have H : ((rollcallref05_Put.f k l0).bind fun bt345 => (rollcallref05_Sum.l0 k bt345.1 14695981039346656037 0)) = some r := h
 clear h
 replace H := Option.bind_eq_some_iff.mp H
 obtain ⟨⟨t345, t346⟩, A20, H⟩ := H
 replace H : (rollcallref05_Sum.l0 k t345 14695981039346656037 0) = some r := H
 have A2 := Aside0.mk A20
 clear A20
 have H' := Aside0.mk H
 clear H
 go_enter Try.func33, Try.ntmps33
 go_wp2_with (first | ((with_reducible refine gate_callee (f := 59) rfl ?_); refine goesL_ (some 9) rfl rfl Try.func59 (by kernel_rfl) rfl #[.slice A0 l0.length c0] rfl (by (try simp only [List.map_toArray, List.map_cons, List.map_nil]); first | done | rfl | (simp only [List.length_drop, List.length_take]; rfl)) ?_; (with_reducible refine (rollcallref05_Put.calls k _ _ l0 t345 t346 _ ?side1 ?side2 A2.out).mono ?_); (case side1 => repeat (first | exact HR0.out | (with_reducible refine Kd.C_alloc ?_ _) | (with_reducible refine Kd.C_drewN ?_ _) | (with_reducible refine Kd.C_drew ?_))); (case side2 => exact HC0.out); rintro e w3 ⟨rfl, hb⟩; refine ⟨_, rfl, ?_⟩; replace HB := Aside0.mk (below_step (hS HB.out) hb); (try clear hb); (try clear hb2); (try clear hk); (try clear hi)))
 go_loopg [5, 6] k (fun kq v5 v6 w' => ∃ (x5_1 : Int) (x6_1 : Int), v5 = .int .u64 x5_1 ∧ v6 = .int .i64 x6_1 ∧ Aside0 (rollcallref05_Sum.l0 kq t345 x5_1 x6_1 = some r) ∧ Aside0 (kq ≤ k) ∧ Aside0 (Below w.heap.size w w'))
 case atStart => exact ⟨(14695981039346656037), (0), (by first | rfl | (simp; done) | (simp [*]; done)), (by first | rfl | (simp; done) | (simp [*]; done)), H', ⟨Nat.le_refl _⟩, ⟨by repeat (first | (with_reducible first | exact HB.out | apply below_alloc | apply pw_below_drewN | apply below_drew1) | exact HB.out)⟩⟩
 case round =>
  clear H'
  try clear p2
  try clear c3
  obtain ⟨x5_1, x6_1, rfl, rfl, HA, HK1, HB⟩ := hrel
  cases gk with
  | zero => exact absurd HA.out (by simp [rollcallref05_Sum.l0])
  | succ k1 =>
   have H := HA.out
   clear HA
   simp only [rollcallref05_Sum.l0] at H
   by_cases c4 : x6_1 < (t345.size : Int)
   ·rw [if_pos c4] at H
    have c4b0 : decide (x6_1 < (t345.size : Int)) = true := decide_eq_true c4
    clear c4
    by_cases c5 : 0 ≤ x6_1
    ·rw [if_pos c5] at H
     have c5b0 : decide (0 ≤ x6_1) = true := decide_eq_true c5
     clear c5
     have H' := Aside0.mk H
     clear H
     have p6 : 0 ≤ (x6_1 : Int) := of_decide_eq_true (by first | (with_reducible assumption) | assumption)
     have q6 : x6_1 < (t345.size : Int) := of_decide_eq_true (by first | (with_reducible assumption) | assumption)
     have hx6 := bt_at t345 x6_1
     replace p6 := eq_true p6
     replace q6 := eq_true q6
     go_wp2
     go_roundg k1
     case measure => have := HK1.out; omega
     case rel => exact ⟨(IntKind.u64.wrap ((Go.bits .xor .u64 x5_1 (IntKind.u64.wrap (bt t345 x6_1))) * 1099511628211)), (wrap64 (x6_1 + 1)), (by first | rfl | (simp; done) | (simp [*]; done)), (by first | rfl | (simp; done) | (simp [*]; done)), H', ⟨by have := HK1.out; omega⟩, ⟨by repeat (first | (with_reducible first | exact HB.out | apply below_alloc | apply pw_below_drewN | apply below_drew1) | exact HB.out)⟩⟩
    ·rw [if_neg c5] at H
     exact absurd H (by simp)
   ·rw [if_neg c4] at H
    have c4b0 : decide (x6_1 < (t345.size : Int)) = false := decide_eq_false c4
    clear c4
    obtain rfl := Option.some.inj H
    go_wp2
    go_ret
    exact ⟨by first | rfl | (simp [errW_none, errW_some] <;> rfl) | (simp [*, errW_none, errW_some] <;> rfl), by repeat (first | (with_reducible first | exact HB.out | apply below_alloc | apply pw_below_drewN | apply below_drew1) | exact HB.out)⟩

/-! ### rollcallref16_Level: function 29 -/
/-! ### rollcallref16_Take: function 53 -/
end Go.Proofs.Ytmigglldahkngaa.PA
end

section
/- Tables and their sums, buckets, and which links may be, in plain lists: what the printed functions, and their references, answer. -/
namespace Go.Proofs.Ytmigglldahkngaa.XV17
open Go.RowKit Go.Proofs.Ytmigglldahkngaa.PA Go.Proofs.YtmigglldahkngaaW.PrintWords Go.Proofs.YtmigglldahkngaaW.PrintLast Go.Proofs.Ytmigglldahkngaa.XGen
open Go.Proofs.Ytmigglldahkngaa.XPlace (idx is)
open Go.Proofs.Ytmigglldahkngaa.XLess (lessB)
open Go.Proofs.Ytmigglldahkngaa.XIdent (isB)
open Go.Proofs.Ytmigglldahkngaa.XMay (mayB)
open Go.Proofs.Ytmigglldahkngaa.XPut (refPut_f refPut_n refPut_v P nameP PV cat cat_take)
open Go.Proofs.Ytmigglldahkngaa.XSum (rowB putB putB_size rowB_size fstep fnv sumB)
open Go.Proofs.Ytmigglldahkngaa.XPace (TK lvl tk Fits fits_f)
set_option linter.unusedVariables false
set_option linter.unusedSimpArgs false
theorem wrap64_in (n : Int) (h : -9223372036854775808 ≤ n ∧ n ≤ 9223372036854775807) : wrap64 n = n := by unfold wrap64; omega
/-! ### tables -/
def rowOk (x : Se) : Bool := isB x.f0 && mayB x.f1.f0 x.f1.f1 x.f1.f2 x.f1.f3
def nthS (t : List Se) (j : Nat) : Se := t.getD j z72
theorem nthS_get (t : List Se) (j : Nat) (h : j < t.length) : nthS t j = t[j] := getD_lt t _ j h
def allT (t : List Se) : Nat → Nat → Bool
 | 0, _ => true
 | d + 1, j => rowOk (nthS t j) && ((decide (j = 0) || lessB (nthS t (j - 1)).f0 (nthS t j).f0) && allT t d (j + 1))
/-- Whether a table may be. -/
def mayT (t : List Se) : Bool := decide (t.length ≤ 32) && allT t t.length 0
theorem refMayTL (t : List Se) (ht : t.length ≤ 1000) : ∀ (d k j : Nat), j + d = t.length → d + 60 < k → rollcallref05_May.l0 k t (j : Int) = some (allT t d j) := by
 intro d
 induction d with
 | zero =>
  intro k j hj hk
  obtain ⟨k, rfl⟩ : ∃ m, k = m + 1 := ⟨k - 1, by omega⟩
  rw [rollcallref05_May.l0, if_neg (by omega)]; rfl
 | succ d ih =>
  intro k j hj hk
  obtain ⟨k, rfl⟩ : ∃ m, k = m + 1 := ⟨k - 1, by omega⟩
  rw [rollcallref05_May.l0, if_pos (by omega), if_pos (by omega), rdS_at t j (by omega), refIs_f k _ (by omega), refMay_f k _ _ _ _ (by omega), allT, nthS_get t j (by omega), rowOk]
  simp only [Option.bind_some]
  have hb := ih k (j + 1) (by omega) (by omega)
  cases isB t[j].f0 with
  | false => simp
  | true =>
   cases mayB t[j].f1.f0 t[j].f1.f1 t[j].f1.f2 t[j].f1.f3 with
   | false => simp
   | true =>
    rw [if_pos rfl, if_pos rfl]
    by_cases c : (j : Int) > 0
    ·rw [if_pos c, wrap_pred j (by omega) (by omega), if_pos (by omega), if_pos (by omega), rdS_at t (j - 1) (by omega), refLess_b, nthS_get t (j - 1) (by omega), decide_eq_false (show ¬ j = 0 by omega)]
     simp only [Option.bind_some]
     cases lessB (t[j - 1]'(by omega)).f0 t[j].f0 with
     | false => simp
     | true => rw [if_pos rfl, wrap_succ j (by omega), hb]; simp
    ·rw [if_neg c, wrap_succ j (by omega), hb, decide_eq_true (show j = 0 by omega)]; simp
theorem refMayT_b (k : Nat) (t : List Se) (hk : 200 ≤ k) : rollcallref05_May.f k t = some (mayT t) := by
 unfold rollcallref05_May.f mayT
 by_cases c : (t.length : Int) > 32
 ·rw [if_pos c, decide_eq_false (by omega)]; rfl
 ·rw [if_neg c, show (0 : Int) = ((0 : Nat) : Int) from rfl, refMayTL t (by omega) t.length k 0 (by omega) (by omega), decide_eq_true (by omega)]; rfl
theorem digMayTL (t : List Se) (ht : t.length ≤ 1000) (hs : ∀ x ∈ t, x.f0.size ≤ 9223372036854775807) : ∀ (d k j : Nat), j + d = t.length → d < k → digest_May.l0 k t t (t.length : Int) (j : Int) = some (allT t d j && decide (t.length ≤ 32)) := by
 intro d
 induction d with
 | zero =>
  intro k j hj hk
  obtain ⟨k, rfl⟩ : ∃ m, k = m + 1 := ⟨k - 1, by omega⟩
  rw [digest_May.l0, if_neg (by omega), allT]
  simp only [Bool.true_and, Option.some.injEq, decide_eq_decide]
  omega
 | succ d ih =>
  intro k j hj hk
  obtain ⟨k, rfl⟩ : ∃ m, k = m + 1 := ⟨k - 1, by omega⟩
  have hI : XIdent.ident_Is.f t[j].f0 = some (isB t[j].f0) := by unfold XIdent.ident_Is.f; rw [if_pos (hs _ (List.getElem_mem _))]
  rw [digest_May.l0, if_pos (by omega), if_pos (by omega), if_pos (by omega), rdS_at t j (by omega), show ident_Is.f t[j].f0 = some (isB t[j].f0) from hI, XPut.may_f, allT, nthS_get t j (by omega), rowOk]
  simp only [Option.bind_some]
  have hb := ih k (j + 1) (by omega) (by omega)
  cases isB t[j].f0 with
  | false => simp
  | true =>
   cases mayB t[j].f1.f0 t[j].f1.f1 t[j].f1.f2 t[j].f1.f3 with
   | false => simp
   | true =>
    rw [if_pos rfl, if_pos rfl]
    by_cases c : (j : Int) > 0
    ·rw [if_pos c, wrap_pred j (by omega) (by omega), if_pos (by omega), if_pos (by omega), rdS_at t (j - 1) (by omega), nthS_get t (j - 1) (by omega), decide_eq_false (show ¬ j = 0 by omega)]
     have hL : XLess.ident_Less.f (t[j - 1]'(by omega)).f0 t[j].f0 = some (lessB (t[j - 1]'(by omega)).f0 t[j].f0) := rfl
     rw [show ident_Less.f (t[j - 1]'(by omega)).f0 t[j].f0 = some (lessB (t[j - 1]'(by omega)).f0 t[j].f0) from hL]
     simp only [Option.bind_some]
     cases lessB (t[j - 1]'(by omega)).f0 t[j].f0 with
     | false => simp
     | true => rw [if_pos rfl, wrap_succ j (by omega), hb]; simp
    ·rw [if_neg c, wrap_succ j (by omega), hb, decide_eq_true (show j = 0 by omega)]; simp
theorem digMayT_b (k : Nat) (t : List Se) (ht : t.length ≤ 1000) (hs : ∀ x ∈ t, x.f0.size ≤ 9223372036854775807) (hk : t.length < k) : digest_May.f k t = some (mayT t) := by
 unfold digest_May.f mayT
 have := digMayTL t ht hs t.length k 0 (by omega) hk
 rw [show ((0 : Nat) : Int) = 0 from rfl] at this
 rw [this, Bool.and_comm]
theorem allT_iff (t : List Se) : ∀ (d j : Nat), j + d = t.length → (allT t d j = true ↔ ∀ (i : Nat) (hi : i < t.length), j ≤ i → rowOk t[i] = true ∧ (0 < i → lessB (t[i - 1]'(by omega)).f0 t[i].f0 = true)) := by
 intro d
 induction d with
 | zero => intro j hj; exact ⟨fun _ i hi hji => by omega, fun _ => rfl⟩
 | succ d ih =>
  intro j hj
  rw [allT, Bool.and_eq_true, Bool.and_eq_true, ih (j + 1) (by omega), nthS_get t j (by omega)]
  constructor
  ·rintro ⟨h1, h2, h3⟩ i hi hji
   by_cases e : i = j
   ·subst e
    refine ⟨h1, fun h0 => ?_⟩
    rw [nthS_get t (i - 1) (by omega)] at h2
    rcases Bool.or_eq_true _ _ ▸ h2 with h | h
    ·have := of_decide_eq_true h; omega
    ·exact h
   ·exact h3 i hi (by omega)
  ·intro h
   refine ⟨(h j (by omega) (by omega)).1, ?_, fun i hi hji => h i hi (by omega)⟩
   by_cases e : j = 0
   ·rw [decide_eq_true e]; rfl
   ·rw [nthS_get t (j - 1) (by omega), (h j (by omega) (by omega)).2 (by omega)]; simp
theorem mayT_iff (t : List Se) : mayT t = true ↔ t.length ≤ 32 ∧ (∀ x ∈ t, rowOk x = true) ∧ Srt t := by
 unfold mayT
 rw [Bool.and_eq_true, decide_eq_true_iff, allT_iff t t.length 0 (by omega)]
 constructor
 ·rintro ⟨h1, h2⟩
  refine ⟨h1, fun x hx => ?_, srt_of t fun i hi h0 => (h2 i hi (by omega)).2 h0⟩
  obtain ⟨i, hi, rfl⟩ := List.getElem_of_mem hx
  exact (h2 i hi (by omega)).1
 ·rintro ⟨h1, h2, h3⟩
  exact ⟨h1, fun i hi _ => ⟨h2 _ (List.getElem_mem hi), fun h0 => List.pairwise_iff_getElem.1 h3 (i - 1) i (by omega) hi (by omega)⟩⟩
/-! ### sums -/
theorem refPutL05 (t : List Se) (ht : t.length ≤ 40) : ∀ (d k j : Nat), j + d = t.length → d + 60 < k → rollcallref05_Put.l0 k t (P (t.length : Int) ++ cat ((t.map rowB).take j)) (j : Int) = some (putB t, true) := by
 intro d
 induction d with
 | zero =>
  intro k j hj hk
  obtain ⟨k, rfl⟩ : ∃ m, k = m + 1 := ⟨k - 1, by omega⟩
  rw [rollcallref05_Put.l0, if_neg (by omega), List.take_of_length_le (by simp; omega)]; rfl
 | succ d ih =>
  intro k j hj hk
  obtain ⟨k, rfl⟩ : ∃ m, k = m + 1 := ⟨k - 1, by omega⟩
  rw [rollcallref05_Put.l0, if_pos (by omega), if_pos (by omega), rdS_at t j (by omega), refPut_n k _ (by omega), refPut_v k _ _ _ _ (by omega)]
  simp only [Option.bind_some]
  have hsz := rowB_size t[j]
  have hct : (P (t.length : Int) ++ cat ((t.map rowB).take j)).size ≤ 10 + 86 * 40 := by
   have h2 : cat ((t.map rowB).take j) = cat ((t.take j).map rowB) := by rw [List.map_take]
   have h1 := putB_size (t.take j) t.length
   rw [h2]
   have h3 : (t.take j).length ≤ 40 := by rw [List.length_take]; omega
   omega
  rw [if_pos (by omega), if_pos (by rw [show ∀ a b : ByteArray, (a ++ b).size = a.size + b.size from fun a b => ByteArray.size_append]; omega), wrap_succ j (by omega)]
  have e : (P (t.length : Int) ++ cat ((t.map rowB).take j)) ++ (nameP t[j].f0).1 ++ (PV t[j].f1.f0 t[j].f1.f1 t[j].f1.f2 t[j].f1.f3).1 = P (t.length : Int) ++ cat ((t.map rowB).take (j + 1)) := by
   rw [cat_take (t.map rowB) j (by simp; omega), ByteArray.append_assoc, ByteArray.append_assoc, List.getElem_map]
   rfl
  rw [e]
  exact ih k (j + 1) (by omega) (by omega)
theorem bt_of (s : ByteArray) (j : Nat) (h : j < s.size) : bt s (j : Int) = (bytesOf s)[j]'(by rw [bytesOf_length]; exact h) := by
 unfold bt bytesOf
 rw [dif_pos (by simpa using h)]
 simp only [List.getElem_map, Int.toNat_natCast]
 rfl
theorem refSumL (s : ByteArray) (hs : s.size ≤ 100000) : ∀ (d k j : Nat) (h : Int), j + d = s.size → d < k → rollcallref05_Sum.l0 k s h (j : Int) = some (((bytesOf s).drop j).foldl fstep h) := by
 intro d
 induction d with
 | zero =>
  intro k j h hj hk
  obtain ⟨k, rfl⟩ : ∃ m, k = m + 1 := ⟨k - 1, by omega⟩
  rw [rollcallref05_Sum.l0, if_neg (by omega), List.drop_of_length_le (by rw [bytesOf_length]; omega)]; rfl
 | succ d ih =>
  intro k j h hj hk
  obtain ⟨k, rfl⟩ : ∃ m, k = m + 1 := ⟨k - 1, by omega⟩
  rw [rollcallref05_Sum.l0, if_pos (by omega), if_pos (by omega), wrap_succ j (by omega), ih k (j + 1) _ (by omega) (by omega), List.drop_eq_getElem_cons (i := j) (by rw [bytesOf_length]; omega), List.foldl_cons, bt_of s j (by omega)]
  rfl
theorem refSum_b (k : Nat) (t : List Se) (h : mayT t = true) (hk : 6000 ≤ k) : rollcallref05_Sum.f k t = some (sumB t) := by
 obtain ⟨hl, _, _⟩ := (mayT_iff t).1 h
 have hp : rollcallref05_Put.f k t = some (putB t, true) := by
  unfold rollcallref05_Put.f
  rw [refMayT_b k t (by omega), h]
  simp only [Option.bind_some, if_pos]
  have hw : IntKind.u64.wrap (t.length : Int) = (t.length : Int) := by rw [IntKind.wrap_u64]; omega
  rw [hw, refPut_f k _ (by omega) (by omega) (by omega)]
  simp only [Option.bind_some]
  have := refPutL05 t (by omega) t.length k 0 (by omega) (by omega)
  rw [List.take_zero] at this
  exact (congrArg (fun s => rollcallref05_Put.l0 k t s 0) (show P (t.length : Int) = P (t.length : Int) ++ cat [] by exact (XPut.app_nil _).symm)).trans this
 unfold rollcallref05_Sum.f
 rw [hp]
 simp only [Option.bind_some]
 have hs := putB_size t t.length
 have hs' : (putB t).size ≤ 10 + 86 * t.length := hs
 have := refSumL (putB t) (by omega) (putB t).size k 0 14695981039346656037 (by omega) (by omega)
 exact this
/-! ### buckets -/
theorem ref16May_b (c0 c1 c2 c3 : Int) : rollcallref16_May.f c0 c1 c2 c3 = some (decide (1 ≤ c0 ∧ c0 ≤ 16 ∧ 1 ≤ c1 ∧ c1 ≤ 64 ∧ 1 ≤ c2 ∧ c2 ≤ 16 ∧ 1 ≤ c3 ∧ c3 ≤ 1000)) := by
 unfold rollcallref16_May.f
 repeat' split
 all_goals (simp only [Option.some.injEq]; symm; first | (rw [decide_eq_decide]; omega) | (rw [decide_eq_false_iff_not]; omega))
theorem time_b (n : Int) : rollcallref16_Time.f n = some (decide (0 ≤ n ∧ n ≤ 1099511627776)) := by
 unfold rollcallref16_Time.f
 split
 all_goals (simp only [Option.some.injEq]; symm; first | (rw [decide_eq_decide]; omega) | (rw [decide_eq_false_iff_not]; omega))
/-- Whether a bucket may be one of a config. -/
def OneP (c0 c1 c2 c3 t a : Int) : Prop := (1 ≤ c0 ∧ c0 ≤ 16 ∧ 1 ≤ c1 ∧ c1 ≤ 64 ∧ 1 ≤ c2 ∧ c2 ≤ 16 ∧ 1 ≤ c3 ∧ c3 ≤ 1000) ∧ 0 ≤ t ∧ t ≤ c1 ∧ 0 ≤ a ∧ a ≤ 1099511627776
instance (c0 c1 c2 c3 t a : Int) : Decidable (OneP c0 c1 c2 c3 t a) := by unfold OneP; infer_instance
theorem one16_b (c0 c1 c2 c3 t a : Int) : rollcallref16_One.f c0 c1 c2 c3 t a = some (decide (OneP c0 c1 c2 c3 t a)) := by
 unfold rollcallref16_One.f
 rw [ref16May_b, time_b]
 simp only [Option.bind_some, decide_eq_true_eq]
 repeat' split
 all_goals (simp only [Option.some.injEq]; symm; first | (rw [decide_eq_decide]; unfold OneP; omega) | (rw [decide_eq_false_iff_not]; unfold OneP; omega))
/-- How many tokens there are. -/
def LV (c0 c1 c2 c3 t a n : Int) : Int := if Fits c0 c1 c2 c3 t a n then lvl c1 c2 t a n else 0
/-! ### links -/
theorem andR (a b : Bool) (h : a = false) : (b && a) = false := by rw [h, Bool.and_false]
/-- Whether a link may be. -/
def mayK (c0 c1 c2 c3 s : Int) (q : List Ch) (lat : Bool) (t a : Int) (sn : Bool) (d : Int) : Bool :=
 decide (OneP c0 c1 c2 c3 t a) && (decide (0 ≤ s ∧ s ≤ 1099511627776) && (mayQ q lat c0 && (!lat && (decide (0 ≤ d ∧ d ≤ 1099511627776) && (!sn || decide (q.length = 0))))))
theorem refMayK (k : Nat) (c0 c1 c2 c3 s : Int) (q : List Ch) (lat : Bool) (t a : Int) (sn : Bool) (d : Int) (hq : q.length ≤ 40) (hk : 200 ≤ k) : rollcallref18_May.f k c0 c1 c2 c3 s q lat t a sn d = some (mayK c0 c1 c2 c3 s q lat t a sn d) := by
 unfold rollcallref18_May.f mayK
 rw [one16_b, time_b, refMay_b k q lat c0 (by omega) (by omega)]
 simp only [Option.bind_some, decide_eq_true_eq]
 by_cases h1 : OneP c0 c1 c2 c3 t a
 rotate_left
 ·rw [if_neg h1, decide_eq_false h1]; rfl
 rw [if_pos h1, decide_eq_true h1]
 by_cases h2 : s < 0
 ·rw [if_pos h2, decide_eq_false (by omega)]; rfl
 rw [if_neg h2]
 by_cases h3 : s > 1099511627776
 ·rw [if_pos h3, decide_eq_false (by omega)]; rfl
 rw [if_neg h3, decide_eq_true (show 0 ≤ s ∧ s ≤ 1099511627776 by omega)]
 cases mayQ q lat c0 with
 | false => rfl
 | true =>
  cases lat with
  | true => rfl
  | false =>
   by_cases h4 : 0 ≤ d ∧ d ≤ 1099511627776
   ·rw [if_pos h4, decide_eq_true h4]
    cases sn with
    | false => rfl
    | true =>
     simp only [if_pos, Bool.not_false, Bool.not_true, Bool.true_and, Bool.false_or, Option.some.injEq, Bool.false_eq_true, if_false]
     rw [Bool.eq_iff_iff]
     simp
   ·rw [if_neg h4, decide_eq_false h4]; rfl
theorem ltime_b (n : Int) : link_time.f n = some (decide (0 ≤ n ∧ n ≤ 1099511627776)) := by
 unfold link_time.f
 split
 all_goals (simp only [Option.some.injEq]; symm; first | (rw [decide_eq_decide]; omega) | (rw [decide_eq_false_iff_not]; omega))
theorem paceMay_b (c0 c1 c2 c3 : Int) : pace_May.f c0 c1 c2 c3 = some (decide (1 ≤ c0 ∧ c0 ≤ 16 ∧ 1 ≤ c1 ∧ c1 ≤ 64 ∧ 1 ≤ c2 ∧ c2 ≤ 16 ∧ 1 ≤ c3 ∧ c3 ≤ 1000)) := by
 unfold pace_May.f
 simp only [XPace.within_f, Option.bind_some, decide_eq_true_eq]
 repeat' split
 all_goals (simp only [Option.some.injEq]; symm; first | (rw [decide_eq_decide]; omega) | (rw [decide_eq_false_iff_not]; omega))
theorem linkMayK (k : Nat) (c0 c1 c2 c3 s : Int) (q : List Ch) (lat : Bool) (t a : Int) (sn : Bool) (d : Int) (hq : q.length ≤ 40) (hs : ∀ x ∈ q, x.f0.size ≤ 9223372036854775807) (hk : 200 ≤ k) : link_May.f k c0 c1 c2 c3 s q lat t a sn d = some (mayK c0 c1 c2 c3 s q lat t a sn d) := by
 obtain ⟨k, rfl⟩ : ∃ m, k = m + 2 := ⟨k - 2, by omega⟩
 have hQ : ∀ j, 100 ≤ j → queue_May.f j q lat c0 = some (mayQ q lat c0) := fun j hj => may_b j q lat c0 (by omega) hs (by omega)
 unfold link_May.f mayK
 rw [paceMay_b, ltime_b, ltime_b]
 simp only [Option.bind_some, decide_eq_true_eq]
 by_cases h1 : OneP c0 c1 c2 c3 t a
 ·have h1' := h1
  unfold OneP at h1'
  rw [if_pos h1'.1, if_neg (by omega), if_neg (by omega), if_pos (by omega), decide_eq_true h1]
  by_cases h4 : 0 ≤ d ∧ d ≤ 1099511627776
  ·rw [decide_eq_true h4]
   by_cases h2 : 0 ≤ s ∧ s ≤ 1099511627776
   ·rw [decide_eq_true h2]
    simp only [link_May.j0, Bool.not_true, Bool.false_eq_true, if_false, if_neg (show ¬ s < 0 by omega), if_neg (show ¬ s > 1099511627776 by omega), hQ (k + 1) (by omega), Option.bind_some]
    cases mayQ q lat c0 with
    | false => simp
    | true =>
     cases lat with
     | true => simp
     | false =>
      cases sn with
      | false => simp
      | true => simp; rw [Bool.eq_iff_iff]; simp
   ·rw [decide_eq_false h2]
    by_cases h3 : s < 0
    ·simp [link_May.j0, h3]
    ·have h5 : s > 1099511627776 := by omega
     simp [link_May.j0, h3, h5]
  ·rw [decide_eq_false h4]
   simp [link_May.j0]
 ·rw [decide_eq_false h1]
  have hj : ∀ j, link_May.j0 (j + 2) true c0 c1 c2 c3 s q lat t a sn d = some false := fun j => by simp [link_May.j0]
  split
  ·rename_i hc
   split
   ·rename_i h; rw [decide_eq_true h]; exact hj k
   ·split
    ·rename_i h; rw [decide_eq_true h]; exact hj k
    ·split
     ·rename_i h2 h3 h; exact absurd (show OneP c0 c1 c2 c3 t a by unfold OneP; omega) h1
     ·rename_i h; rw [decide_eq_false h]; exact hj k
  ·rename_i hc; rw [decide_eq_false hc]; exact hj k
theorem mayK_iff (c0 c1 c2 c3 s : Int) (q : List Ch) (lat : Bool) (t a : Int) (sn : Bool) (d : Int) : mayK c0 c1 c2 c3 s q lat t a sn d = true ↔ OneP c0 c1 c2 c3 t a ∧ (0 ≤ s ∧ s ≤ 1099511627776) ∧ mayQ q lat c0 = true ∧ lat = false ∧ (0 ≤ d ∧ d ≤ 1099511627776) ∧ (sn = true → q = []) := by
 unfold mayK
 simp only [Bool.and_eq_true, decide_eq_true_eq, Bool.not_eq_true', Bool.or_eq_true]
 constructor
 ·rintro ⟨h1, h2, h3, h4, h5, h6⟩
  exact ⟨h1, h2, h3, h4, h5, fun e => by
   subst e
   rcases h6 with h6 | h6
   ·cases h6
   ·exact List.length_eq_zero_iff.1 h6⟩
 ·rintro ⟨h1, h2, h3, h4, h5, h6⟩
  refine ⟨h1, h2, h3, h4, h5, ?_⟩
  cases sn with
  | false => exact .inl rfl
  | true => exact .inr (by rw [h6 rfl]; rfl)
end Go.Proofs.Ytmigglldahkngaa.XV17
end

section
/- The printed contracts of law18's functions, over Kn. -/
namespace Go.Proofs.Ytmigglldahkngaa.XKn
open Go.RowKit Go.Proofs.YtmigglldahkngaaW.PrintWords Go.Proofs.YtmigglldahkngaaW.PrintLast Go.Proofs.YtmigglldahkngaaW.PrintMore Go.Proofs.Ytmigglldahkngaa.PA Go.Proofs.Ytmigglldahkngaa.XMem Go.Proofs.Ytmigglldahkngaa.XSt
set_option linter.unusedVariables false
set_option linter.unusedSimpArgs false
theorem rollcallref18_Few.kn {w : World} (k : Nat) {a0_0 : Int} {A0_1 : Option Addr} {c0_1 : Nat} {l0_1 : List (S34)} {a0_2 : Bool} {a0_3 : Int} {a0_4 : Int} {a0_5 : Bool} {a0_6 : Int} {r : Bool} (h : rollcallref18_Few.f k a0_0 l0_1 a0_2 a0_3 a0_4 a0_5 a0_6 = some r) {Q1_ : Nat → Prop} (g1 : (V k34 (.slice A0_1 l0_1.length c0_1) l0_1).P w Q1_) :
  Calls Try.prog 9 #[.agg #[.int .i64 a0_0, .slice A0_1 l0_1.length c0_1, .bool a0_2, .int .i64 a0_3, .int .i64 a0_4, .bool a0_5, .int .i64 a0_6]] w fun e w' => e = .returned (.bool r) ∧ Below w.heap.size w w' := by
 refine (rollcallref18_Few.calls k a0_0 A0_1 c0_1 l0_1 a0_2 a0_3 a0_4 a0_5 a0_6 r w (Kd.V_reads' (e := 0) (base := 0) g1).2.2 (Kd.V_reads' (e := 0) (base := 0) g1).2.1 h).mono ?_
 rintro e w' ⟨y0, y1⟩
 exact ⟨y0, y1⟩
theorem link_New.kn {w : World} {a0_0 : Int} {a0_1 : Int} {a0_2 : Int} {a0_3 : Int} {a1 : Int} {r1 : Int} {r2 : List (S34)} {r3 : Bool} {r4 : Int} {r5 : Int} {r6 : Bool} {r7 : Int} {r8 : Int} (h : link_New.f a0_0 a0_1 a0_2 a0_3 a1 = some (r1, r2, r3, r4, r5, r6, r7, r8))  :
  Calls Try.prog 12 #[.agg #[.int .i64 a0_0, .int .i64 a0_1, .int .i64 a0_2, .int .i64 a0_3], .int .i64 a1] w fun e w' => ∃ (Av1_ : Option Addr) (cv1_ : Nat), e = .returned (.tuple #[.agg #[.int .i64 r1, (.slice Av1_ r2.length cv1_), .bool r3, .int .i64 r4, .int .i64 r5, .bool r6, .int .i64 r7], .int .i64 r8]) ∧ (V k34 (.slice Av1_ r2.length cv1_) r2).P w' (fun k => w.heap.size ≤ k) ∧ Below w.heap.size w w' := by
 refine (link_New.calls a0_0 a0_1 a0_2 a0_3 a1 r1 r2 r3 r4 r5 r6 r7 r8 w h).mono ?_
 rintro e w' ⟨v1_, y0, y1, y2⟩
 have z1 := R_new y1
 obtain ⟨Av1_, cv1_, rfl⟩ := Kd.V_slice (e := 0) (base := 0) z1
 exact ⟨Av1_, cv1_, y0, z1, y2⟩
theorem rollcallref18_Same.kn {w : World} (k : Nat) {a0_0 : Int} {A0_1 : Option Addr} {c0_1 : Nat} {l0_1 : List (S34)} {a0_2 : Bool} {a0_3 : Int} {a0_4 : Int} {a0_5 : Bool} {a0_6 : Int} {a1_0 : Int} {A1_1 : Option Addr} {c1_1 : Nat} {l1_1 : List (S34)} {a1_2 : Bool} {a1_3 : Int} {a1_4 : Int} {a1_5 : Bool} {a1_6 : Int} {r : Bool} (h : rollcallref18_Same.f k a0_0 l0_1 a0_2 a0_3 a0_4 a0_5 a0_6 a1_0 l1_1 a1_2 a1_3 a1_4 a1_5 a1_6 = some r) {Q1_ : Nat → Prop} {Q2_ : Nat → Prop} (g1 : (V k34 (.slice A0_1 l0_1.length c0_1) l0_1).P w Q1_) (g2 : (V k34 (.slice A1_1 l1_1.length c1_1) l1_1).P w Q2_) :
  Calls Try.prog 14 #[.agg #[.int .i64 a0_0, .slice A0_1 l0_1.length c0_1, .bool a0_2, .int .i64 a0_3, .int .i64 a0_4, .bool a0_5, .int .i64 a0_6], .agg #[.int .i64 a1_0, .slice A1_1 l1_1.length c1_1, .bool a1_2, .int .i64 a1_3, .int .i64 a1_4, .bool a1_5, .int .i64 a1_6]] w fun e w' => e = .returned (.bool r) ∧ Below w.heap.size w w' := by
 refine (rollcallref18_Same.calls k a0_0 A0_1 c0_1 l0_1 a0_2 a0_3 a0_4 a0_5 a0_6 a1_0 A1_1 c1_1 l1_1 a1_2 a1_3 a1_4 a1_5 a1_6 r w (Kd.V_reads' (e := 0) (base := 0) g1).2.2 (Kd.V_reads' (e := 0) (base := 0) g1).2.1 (Kd.V_reads' (e := 0) (base := 0) g2).2.2 (Kd.V_reads' (e := 0) (base := 0) g2).2.1 h).mono ?_
 rintro e w' ⟨y0, y1⟩
 exact ⟨y0, y1⟩
theorem link_May.kn {w : World} (k : Nat) {a0_0 : Int} {a0_1 : Int} {a0_2 : Int} {a0_3 : Int} {a1_0 : Int} {A1_1 : Option Addr} {c1_1 : Nat} {l1_1 : List (S34)} {a1_2 : Bool} {a1_3 : Int} {a1_4 : Int} {a1_5 : Bool} {a1_6 : Int} {r : Bool} (h : link_May.f k a0_0 a0_1 a0_2 a0_3 a1_0 l1_1 a1_2 a1_3 a1_4 a1_5 a1_6 = some r) {Q1_ : Nat → Prop} (g1 : (V k34 (.slice A1_1 l1_1.length c1_1) l1_1).P w Q1_) :
  Calls Try.prog 15 #[.agg #[.int .i64 a0_0, .int .i64 a0_1, .int .i64 a0_2, .int .i64 a0_3], .agg #[.int .i64 a1_0, .slice A1_1 l1_1.length c1_1, .bool a1_2, .int .i64 a1_3, .int .i64 a1_4, .bool a1_5, .int .i64 a1_6]] w fun e w' => e = .returned (.bool r) ∧ Below w.heap.size w w' := by
 refine (link_May.calls k a0_0 a0_1 a0_2 a0_3 a1_0 A1_1 c1_1 l1_1 a1_2 a1_3 a1_4 a1_5 a1_6 r w (Kd.V_reads' (e := 0) (base := 0) g1).2.2 (Kd.V_reads' (e := 0) (base := 0) g1).2.1 h).mono ?_
 rintro e w' ⟨y0, y1⟩
 exact ⟨y0, y1⟩
theorem rollcallref18_May.kn {w : World} (k : Nat) {a0_0 : Int} {a0_1 : Int} {a0_2 : Int} {a0_3 : Int} {a1_0 : Int} {A1_1 : Option Addr} {c1_1 : Nat} {l1_1 : List (S34)} {a1_2 : Bool} {a1_3 : Int} {a1_4 : Int} {a1_5 : Bool} {a1_6 : Int} {r : Bool} (h : rollcallref18_May.f k a0_0 a0_1 a0_2 a0_3 a1_0 l1_1 a1_2 a1_3 a1_4 a1_5 a1_6 = some r) {Q1_ : Nat → Prop} (g1 : (V k34 (.slice A1_1 l1_1.length c1_1) l1_1).P w Q1_) :
  Calls Try.prog 16 #[.agg #[.int .i64 a0_0, .int .i64 a0_1, .int .i64 a0_2, .int .i64 a0_3], .agg #[.int .i64 a1_0, .slice A1_1 l1_1.length c1_1, .bool a1_2, .int .i64 a1_3, .int .i64 a1_4, .bool a1_5, .int .i64 a1_6]] w fun e w' => e = .returned (.bool r) ∧ Below w.heap.size w w' := by
 refine (rollcallref18_May.calls k a0_0 a0_1 a0_2 a0_3 a1_0 A1_1 c1_1 l1_1 a1_2 a1_3 a1_4 a1_5 a1_6 r w (Kd.V_reads' (e := 0) (base := 0) g1).2.2 (Kd.V_reads' (e := 0) (base := 0) g1).2.1 h).mono ?_
 rintro e w' ⟨y0, y1⟩
 exact ⟨y0, y1⟩
theorem link_Quiet.kn {w : World} {a0_0 : Int} {A0_1 : Option Addr} {c0_1 : Nat} {l0_1 : List (S34)} {a0_2 : Bool} {a0_3 : Int} {a0_4 : Int} {a0_5 : Bool} {a0_6 : Int} {r : Bool} (h : link_Quiet.f a0_0 l0_1 a0_2 a0_3 a0_4 a0_5 a0_6 = some r) {Q1_ : Nat → Prop} (g1 : (V k34 (.slice A0_1 l0_1.length c0_1) l0_1).P w Q1_) :
  Calls Try.prog 17 #[.agg #[.int .i64 a0_0, .slice A0_1 l0_1.length c0_1, .bool a0_2, .int .i64 a0_3, .int .i64 a0_4, .bool a0_5, .int .i64 a0_6]] w fun e w' => e = .returned (.bool r) ∧ Below w.heap.size w w' := by
 refine (link_Quiet.calls a0_0 A0_1 c0_1 l0_1 a0_2 a0_3 a0_4 a0_5 a0_6 r w (Kd.V_reads' (e := 0) (base := 0) g1).2.2 (Kd.V_reads' (e := 0) (base := 0) g1).2.1 h).mono ?_
 rintro e w' ⟨y0, y1⟩
 exact ⟨y0, y1⟩
theorem link_Ask.kn {w : World} {a0_0 : Int} {A0_1 : Option Addr} {c0_1 : Nat} {l0_1 : List (S34)} {a0_2 : Bool} {a0_3 : Int} {a0_4 : Int} {a0_5 : Bool} {a0_6 : Int} {r1 : Int} {r2 : List (S34)} {r3 : Bool} {r4 : Int} {r5 : Int} {r6 : Bool} {r7 : Int} (h : link_Ask.f a0_0 l0_1 a0_2 a0_3 a0_4 a0_5 a0_6 = some (r1, r2, r3, r4, r5, r6, r7)) {Q1_ : Nat → Prop} (g1 : (V k34 (.slice A0_1 l0_1.length c0_1) l0_1).P w Q1_) :
  Calls Try.prog 21 #[.agg #[.int .i64 a0_0, .slice A0_1 l0_1.length c0_1, .bool a0_2, .int .i64 a0_3, .int .i64 a0_4, .bool a0_5, .int .i64 a0_6]] w fun e w' => ∃ (Av1_ : Option Addr) (cv1_ : Nat), e = .returned (.agg #[.int .i64 r1, (.slice Av1_ r2.length cv1_), .bool r3, .int .i64 r4, .int .i64 r5, .bool r6, .int .i64 r7]) ∧ (V k34 (.slice Av1_ r2.length cv1_) r2).P w' (fun k => w.heap.size ≤ k) ∧ Below w.heap.size w w' := by
 refine (link_Ask.calls a0_0 A0_1 c0_1 l0_1 a0_2 a0_3 a0_4 a0_5 a0_6 r1 r2 r3 r4 r5 r6 r7 w (Kd.V_reads' (e := 0) (base := 0) g1).2.2 (Kd.V_reads' (e := 0) (base := 0) g1).2.1 h).mono ?_
 rintro e w' ⟨v1_, y0, y1, y2⟩
 have z1 := R_new y1
 obtain ⟨Av1_, cv1_, rfl⟩ := Kd.V_slice (e := 0) (base := 0) z1
 exact ⟨Av1_, cv1_, y0, z1, y2⟩
theorem rollcallref05_Few.kn {w : World} (k : Nat) {A0 : Option Addr} {c0 : Nat} {l0 : List (S72)} {r : Bool} (h : rollcallref05_Few.f k l0 = some r) {Q1_ : Nat → Prop} (g1 : (V k72 (.slice A0 l0.length c0) l0).P w Q1_) :
  Calls Try.prog 23 #[.slice A0 l0.length c0] w fun e w' => e = .returned (.bool r) ∧ Below w.heap.size w w' := by
 refine (rollcallref05_Few.calls k A0 c0 l0 r w (Kd.V_reads' (e := 0) (base := 0) g1).2.2 (Kd.V_reads' (e := 0) (base := 0) g1).2.1 h).mono ?_
 rintro e w' ⟨y0, y1⟩
 exact ⟨y0, y1.below⟩
theorem rollcallref05_May.kn {w : World} (k : Nat) {A0 : Option Addr} {c0 : Nat} {l0 : List (S72)} {r : Bool} (h : rollcallref05_May.f k l0 = some r) {Q1_ : Nat → Prop} (g1 : (V k72 (.slice A0 l0.length c0) l0).P w Q1_) :
  Calls Try.prog 27 #[.slice A0 l0.length c0] w fun e w' => e = .returned (.bool r) ∧ Below w.heap.size w w' := by
 refine (rollcallref05_May.calls k A0 c0 l0 r w (Kd.V_reads' (e := 0) (base := 0) g1).2.2 (Kd.V_reads' (e := 0) (base := 0) g1).2.1 h).mono ?_
 rintro e w' ⟨y0, y1⟩
 exact ⟨y0, y1⟩
theorem rollcallref16_Time.kn {w : World} {a0 : Int} {r : Bool} (h : rollcallref16_Time.f a0 = some r)  :
  Calls Try.prog 28 #[.int .i64 a0] w fun e w' => e = .returned (.bool r) ∧ Below w.heap.size w w' := by
 refine (rollcallref16_Time.calls a0 r w h).mono ?_
 rintro e w' ⟨y0, y1⟩
 exact ⟨y0, y1.below⟩
theorem rollcallref17_Over.kn {w : World} (k : Nat) {P0_ : Nat → Prop} {A0 : Option Addr} {c0 : Nat} {l0 : List (S72)} {A1_0 : Option Addr} {c1_0 : Nat} {l1_0 : List (S34)} {a1_1 : Bool} {r : List (S72)} (h : rollcallref17_Over.f k l0 l1_0 a1_1 = some r) {Q2_ : Nat → Prop} (g1 : (V k72 (.slice A0 l0.length c0) l0).P w P0_) (g2 : (V k34 (.slice A1_0 l1_0.length c1_0) l1_0).P w Q2_) :
  Calls Try.prog 31 #[.slice A0 l0.length c0, .agg #[.slice A1_0 l1_0.length c1_0, .bool a1_1]] w fun e w' => ∃ (Av0_ : Option Addr) (cv0_ : Nat), e = .returned ((.slice Av0_ r.length cv0_)) ∧ (V k72 (.slice Av0_ r.length cv0_) r).P w' (fun k_ => (P0_ k_ ∨ w.heap.size ≤ k_)) ∧ Below w.heap.size w w' := by
 refine (rollcallref17_Over.calls k P0_ A0 c0 l0 A1_0 c1_0 l1_0 a1_1 r w (V_to g1 _ _) (Kd.V_reads' (e := 0) (base := 0) g2).2.2 (Kd.V_reads' (e := 0) (base := 0) g2).2.1 h).mono ?_
 rintro e w' ⟨v0_, y0, y1, y2⟩
 have z1 := V_any y1
 obtain ⟨Av0_, cv0_, rfl⟩ := Kd.V_slice (e := 0) (base := 0) z1
 exact ⟨Av0_, cv0_, y0, z1, y2⟩
theorem rollcallref05_Set.kn {w : World} (k : Nat) {A0 : Option Addr} {c0 : Nat} {l0 : List (S72)} {a1_0 : ByteArray} {a1_1 : Bool} {a1_2 : Int} {a1_3 : Int} {a1_4 : Int} {a1_5 : ByteArray} {r : List (S72)} (h : rollcallref05_Set.f k l0 a1_0 a1_1 a1_2 a1_3 a1_4 a1_5 = some r) {Q1_ : Nat → Prop} (g1 : (V k72 (.slice A0 l0.length c0) l0).P w Q1_) :
  Calls Try.prog 32 #[.slice A0 l0.length c0, .agg #[.string a1_0, .bool a1_1, .int .i64 a1_2, .int .i64 a1_3, .int .i64 a1_4, .string a1_5]] w fun e w' => ∃ (Av0_ : Option Addr) (cv0_ : Nat), e = .returned ((.slice Av0_ r.length cv0_)) ∧ (V k72 (.slice Av0_ r.length cv0_) r).P w' (fun k => w.heap.size ≤ k) ∧ Below w.heap.size w w' := by
 refine (rollcallref05_Set.calls k A0 c0 l0 a1_0 a1_1 a1_2 a1_3 a1_4 a1_5 r w (Kd.V_reads' (e := 0) (base := 0) g1).2.2 (Kd.V_reads' (e := 0) (base := 0) g1).2.1 h).mono ?_
 rintro e w' ⟨v0_, y0, y1, y2⟩
 have z1 := R_new y1
 obtain ⟨Av0_, cv0_, rfl⟩ := Kd.V_slice (e := 0) (base := 0) z1
 exact ⟨Av0_, cv0_, y0, z1, y2⟩
theorem rollcallref05_Same.kn {w : World} (k : Nat) {A0 : Option Addr} {c0 : Nat} {l0 : List (S72)} {A1 : Option Addr} {c1 : Nat} {l1 : List (S72)} {r : Bool} (h : rollcallref05_Same.f k l0 l1 = some r) {Q1_ : Nat → Prop} {Q2_ : Nat → Prop} (g1 : (V k72 (.slice A0 l0.length c0) l0).P w Q1_) (g2 : (V k72 (.slice A1 l1.length c1) l1).P w Q2_) :
  Calls Try.prog 34 #[.slice A0 l0.length c0, .slice A1 l1.length c1] w fun e w' => e = .returned (.bool r) ∧ Below w.heap.size w w' := by
 refine (rollcallref05_Same.calls k A0 c0 l0 A1 c1 l1 r w (Kd.V_reads' (e := 0) (base := 0) g1).2.2 (Kd.V_reads' (e := 0) (base := 0) g1).2.1 (Kd.V_reads' (e := 0) (base := 0) g2).2.2 (Kd.V_reads' (e := 0) (base := 0) g2).2.1 h).mono ?_
 rintro e w' ⟨y0, y1⟩
 exact ⟨y0, y1.below⟩
end Go.Proofs.Ytmigglldahkngaa.XKn
end

section
/- rollcallref18's Emit, walked: what any link tells next. -/
namespace Go.Proofs.Ytmigglldahkngaa.XTell
open Go.RowKit Go.Proofs.YtmigglldahkngaaW.PrintWords Go.Proofs.YtmigglldahkngaaW.PrintLast Go.Proofs.YtmigglldahkngaaW.PrintMore Go.Proofs.Ytmigglldahkngaa.PA Go.Proofs.Ytmigglldahkngaa.XMem Go.Proofs.Ytmigglldahkngaa.XSum Go.Proofs.Ytmigglldahkngaa.XSt Go.Proofs.Ytmigglldahkngaa.XKn
open Go.Proofs.Ytmigglldahkngaa.XPace (TK)
open Go.Proofs.Ytmigglldahkngaa.XV17 (mayT refSum_b)
set_option linter.unusedVariables false
set_option linter.unusedSimpArgs false
set_option maxRecDepth 100000
abbrev TLk : TypeId := 30
abbrev TFr : TypeId := 60
abbrev TCh : TypeId := 34
end Go.Proofs.Ytmigglldahkngaa.XTell
end

section
/- Links in plain lists: a new one, what is pushed, asked and told; two lists of frames that are the same. -/
namespace Go.Proofs.Ytmigglldahkngaa.XV17
open Go.RowKit Go.Proofs.Ytmigglldahkngaa.PA Go.Proofs.YtmigglldahkngaaW.PrintWords Go.Proofs.YtmigglldahkngaaW.PrintLast Go.Proofs.Ytmigglldahkngaa.XGen
open Go.Proofs.Ytmigglldahkngaa.XPlace (idx is)
open Go.Proofs.Ytmigglldahkngaa.XTell (emitP nextP)
open Go.Proofs.Ytmigglldahkngaa.XPace (TK)
open Go.Proofs.Ytmigglldahkngaa.XSum (sumB)
set_option linter.unusedVariables false
set_option linter.unusedSimpArgs false
abbrev Fr := S60
/-- Whether a config may be. -/
def CfP (c0 c1 c2 c3 : Int) : Prop := 1 ≤ c0 ∧ c0 ≤ 16 ∧ 1 ≤ c1 ∧ c1 ≤ 64 ∧ 1 ≤ c2 ∧ c2 ≤ 16 ∧ 1 ≤ c3 ∧ c3 ≤ 1000
instance (c0 c1 c2 c3 : Int) : Decidable (CfP c0 c1 c2 c3) := by unfold CfP; infer_instance
def newK (c0 c1 c2 c3 n : Int) : Int × List Ch × Bool × Int × Int × Bool × Int × Int :=
 if CfP c0 c1 c2 c3 ∧ 0 ≤ n ∧ n ≤ 1099511627776 then (0, [], false, c1, n, true, n, 0) else (0, [], false, 0, 0, false, 0, 1)
theorem newK_b (c0 c1 c2 c3 n : Int) : link_New.f c0 c1 c2 c3 n = some (newK c0 c1 c2 c3 n) := by
 unfold link_New.f pace_New.f newK
 rw [paceMay_b, XPace.within_f]
 simp only [Option.bind_some, decide_eq_true_eq]
 by_cases h1 : CfP c0 c1 c2 c3
 ·have h1' := h1
  unfold CfP at h1'
  rw [if_pos h1']
  by_cases h2 : 0 ≤ n ∧ n ≤ 1099511627776
  ·rw [if_pos h2, if_pos ⟨h1, h2⟩]; simp
  ·rw [if_neg h2, if_neg (fun h => h2 h.2)]; simp
 ·have h1' := h1
  unfold CfP at h1'
  rw [if_neg h1', if_neg (fun h => h1 h.1)]; simp
theorem same18 (k : Nat) (s : Int) (q : List Ch) (lat : Bool) (t a : Int) (sn : Bool) (d : Int) (hq : q.length ≤ 1000) (hk : 1001 < k) : rollcallref18_Same.f k s q lat t a sn d s q lat t a sn d = some true := by
 unfold rollcallref18_Same.f
 rw [if_pos rfl, same_f k q lat (by omega) (by omega)]
 simp
theorem quiet_b (s : Int) (q : List Ch) (lat : Bool) (t a : Int) (sn : Bool) (d : Int) : link_Quiet.f s q lat t a sn d = some (!sn && (decide (q.length = 0) && !lat)) := by
 unfold link_Quiet.f
 rw [empty_b]
 cases sn <;> rfl
/-- What is pushed on a link. -/
def pushK (c0 s : Int) (q : List Ch) (lat : Bool) (t a : Int) (sn : Bool) (d : Int) (x : Ch) : Int × List Ch × Bool × Int × Int × Bool × Int :=
 if sn = true then (s, q, lat, t, a, sn, d) else if (PU q lat x c0).2 = true then (s, [], false, t, a, true, d) else (s, (PU q lat x c0).1, (PU q lat x c0).2, t, a, sn, d)
theorem few18_f (k : Nat) (s : Int) (l : List Ch) (b : Bool) (t a : Int) (sn : Bool) (d : Int) (hk : 60 ≤ k) : ∃ q, rollcallref18_Few.f k s l b t a sn d = some q ∧ (q = true → l.length ≤ 30) := by
 obtain ⟨q, h1, h2⟩ := few_f k l b hk
 refine ⟨q, ?_, h2⟩
 unfold rollcallref18_Few.f
 rw [h1]; rfl
/-! ### what is told -/
/-- How often something may be told at most. -/
def rounds (c3 now : Int) (st : XTell.St) : Nat := (if st.sn = true then 1 else 0) + st.q.length + (if now - st.dg < c3 then 0 else 1)
theorem next_less {c3 now : Int} {t : List XSum.Se} {st : XTell.St} {f : Fr} {q : List Ch} {sn : Bool} {dg : Int} (h3 : 1 ≤ c3) (h : nextP c3 now t st = some (f, q, sn, dg)) (s tok at_ : Int) (fs : List Fr) :
  rounds c3 now ⟨s, q, sn, tok, at_, dg, fs⟩ < rounds c3 now st := by
 unfold nextP at h
 unfold rounds
 obtain ⟨s0, q0, sn0, t0, a0, d0, f0⟩ := st
 dsimp only at h ⊢
 cases sn0 with
 | true =>
  rw [if_pos rfl] at h
  simp only [Option.some.injEq, Prod.mk.injEq] at h
  obtain ⟨_, rfl, rfl, rfl⟩ := h
  simp only [if_pos, Int.sub_self, if_neg Bool.false_ne_true, if_pos (show (0 : Int) < c3 by omega)]
  split <;> omega
 | false =>
  rw [if_neg (by simp)] at h
  cases q0 with
  | cons x l =>
   simp only [Option.some.injEq, Prod.mk.injEq] at h
   obtain ⟨_, rfl, rfl, rfl⟩ := h
   simp
  | nil =>
   by_cases hd : now - d0 < c3
   ·simp only [if_pos hd] at h
    cases h
   ·simp only [if_neg hd, Option.some.injEq, Prod.mk.injEq] at h
    obtain ⟨_, rfl, rfl, rfl⟩ := h
    simp only [Int.sub_self, if_pos (show (0 : Int) < c3 by omega), if_neg hd]
    simp
theorem emit_all (c0 c1 c2 c3 now : Int) (t : List XSum.Se) (h3 : 1 ≤ c3) : ∀ (k : Nat) (st : XTell.St), rounds c3 now st < k → ∃ R, emitP c0 c1 c2 c3 now t k st = some R ∧ R.fs.length + rounds c3 now R ≤ st.fs.length + rounds c3 now st ∧ R.q.length ≤ st.q.length ∧ ((∀ f ∈ st.fs, f.f6 = t ∨ f.f6 = []) → ∀ f ∈ R.fs, f.f6 = t ∨ f.f6 = []) := by
 intro k
 induction k with
 | zero => intro st h; omega
 | succ k ih =>
  intro st h
  rw [emitP]
  by_cases h1 : st.s < 1099511627776
  rotate_left
  ·exact ⟨st, by rw [if_neg h1], Nat.le_refl _, Nat.le_refl _, fun h => h⟩
  rw [if_pos h1]
  by_cases h2 : (TK c0 c1 c2 c3 st.tok st.at_ now).2.2 = true
  rotate_left
  ·exact ⟨st, by rw [if_neg h2], Nat.le_refl _, Nat.le_refl _, fun h => h⟩
  rw [if_pos h2]
  rcases hn : nextP c3 now t st with _ | ⟨f, q, sn, dg⟩
  ·exact ⟨st, rfl, Nat.le_refl _, Nat.le_refl _, fun h => h⟩
  ·have hlt := next_less h3 hn (st.s + 1) (TK c0 c1 c2 c3 st.tok st.at_ now).1 (TK c0 c1 c2 c3 st.tok st.at_ now).2.1 (st.fs ++ [f])
   obtain ⟨R, hR, hA, hB, hC⟩ := ih ⟨st.s + 1, q, sn, (TK c0 c1 c2 c3 st.tok st.at_ now).1, (TK c0 c1 c2 c3 st.tok st.at_ now).2.1, dg, st.fs ++ [f]⟩ (by omega)
   refine ⟨R, hR, ?_, ?_, fun hf => hC fun g hg => ?_⟩
   ·simp only [List.length_append, List.length_cons, List.length_nil] at hA
    omega
   ·refine Nat.le_trans hB ?_
    show q.length ≤ st.q.length
    unfold nextP at hn
    split at hn
    ·simp only [Option.some.injEq, Prod.mk.injEq] at hn
     obtain ⟨_, rfl, _⟩ := hn
     exact Nat.le_refl _
    ·split at hn
     ·rename_i e
      simp only [Option.some.injEq, Prod.mk.injEq] at hn
      obtain ⟨_, rfl, _⟩ := hn
      rw [e]; simp
     ·split at hn
      ·cases hn
      ·simp only [Option.some.injEq, Prod.mk.injEq] at hn
       obtain ⟨_, rfl, _⟩ := hn
       simp
   ·rcases List.mem_append.1 hg with hg | hg
    ·exact hf g hg
    ·rw [List.mem_singleton] at hg
     subst hg
     unfold nextP at hn
     split at hn
     ·simp only [Option.some.injEq, Prod.mk.injEq] at hn
      obtain ⟨rfl, _⟩ := hn
      exact .inl rfl
     ·split at hn
      ·simp only [Option.some.injEq, Prod.mk.injEq] at hn
       obtain ⟨rfl, _⟩ := hn
       exact .inr rfl
      ·split at hn
       ·cases hn
       ·simp only [Option.some.injEq, Prod.mk.injEq] at hn
        obtain ⟨rfl, _⟩ := hn
        exact .inr rfl
theorem rdF_at (l : List Fr) (j : Nat) (h : j < l.length) : rd_T60 l (j : Int) = l[j] := by
 unfold rd_T60
 rw [Int.toNat_natCast, getD_lt l _ j h]
end Go.Proofs.Ytmigglldahkngaa.XV17
end

section
/- A change that is pushed on a link (and on the reference's), walked; what a link tells, over Kn. -/
namespace Go.Proofs.Ytmigglldahkngaa.XTell
open Go.RowKit Go.Proofs.YtmigglldahkngaaW.PrintWords Go.Proofs.YtmigglldahkngaaW.PrintLast Go.Proofs.YtmigglldahkngaaW.PrintMore Go.Proofs.Ytmigglldahkngaa.PA Go.Proofs.Ytmigglldahkngaa.XMem Go.Proofs.Ytmigglldahkngaa.XSum Go.Proofs.Ytmigglldahkngaa.XSt Go.Proofs.Ytmigglldahkngaa.XKn
open Go.Proofs.Ytmigglldahkngaa.XV17 (mayT mayK pushK PU push_f linkMayK digMayT_b ltime_b mayK_iff mayT_iff)
set_option linter.unusedVariables false
set_option linter.unusedSimpArgs false
set_option maxRecDepth 100000
abbrev TCf : TypeId := 23
theorem queue_Push.kn {w : World} {P0_0_ : Nat → Prop} {A0_0 : Option Addr} {c0_0 : Nat} {l0_0 : List (S34)} {a0_1 : Bool} {a1_0 : ByteArray} {a1_1 : Bool} {a1_2 : Int} {a1_3 : Int} {a1_4 : Int} {a1_5 : ByteArray} {a2 : Int} {r1 : List (S34)} {r2 : Bool} (h : queue_Push.f l0_0 a0_1 a1_0 a1_1 a1_2 a1_3 a1_4 a1_5 a2 = some (r1, r2)) (g1 : (V k34 (.slice A0_0 l0_0.length c0_0) l0_0).P w P0_0_) :
  Calls Try.prog 48 #[.agg #[.slice A0_0 l0_0.length c0_0, .bool a0_1], .agg #[.string a1_0, .bool a1_1, .int .i64 a1_2, .int .i64 a1_3, .int .i64 a1_4, .string a1_5], .int .i64 a2] w fun e w' => ∃ (Av0_ : Option Addr) (cv0_ : Nat), e = .returned (.agg #[(.slice Av0_ r1.length cv0_), .bool r2]) ∧ (V k34 (.slice Av0_ r1.length cv0_) r1).P w' (fun k_ => (P0_0_ k_ ∨ w.heap.size ≤ k_)) ∧ Below w.heap.size w w' := by
 refine (queue_Push.calls P0_0_ A0_0 c0_0 l0_0 a0_1 a1_0 a1_1 a1_2 a1_3 a1_4 a1_5 a2 r1 r2 w (V_to g1 _ _) h).mono ?_
 rintro e w' ⟨v0_, y0, y1, y2⟩
 have z1 := V_any y1
 obtain ⟨Av0_, cv0_, rfl⟩ := Kd.V_slice (e := 0) (base := 0) z1
 exact ⟨Av0_, cv0_, y0, z1, y2⟩
set_option maxHeartbeats 8000000 in
theorem push_go (ok : Nat → Prop) (c0 c1 c2 c3 s : Int) (A : Option Addr) (cc : Nat) (q : List Ch) (lat : Bool) (tok at_ : Int) (sn : Bool) (dg : Int) (x : Ch) (r0 : Int) (r1 : List Ch) (r2 : Bool) (r3 r4 : Int) (r5 : Bool) (r6 : Int) (w0 w : World)
  (S : Kn ok w0 [] nil tt [V kCh (.slice A q.length cc) q] w) (hq : q.length ≤ 1000) (h : pushK c0 s q lat tok at_ sn dg x = (r0, r1, r2, r3, r4, r5, r6)) :
  Calls Try.prog 19 #[.agg #[.int .i64 c0, .int .i64 c1, .int .i64 c2, .int .i64 c3], .agg #[.int .i64 s, .slice A q.length cc, .bool lat, .int .i64 tok, .int .i64 at_, .bool sn, .int .i64 dg], .agg #[.string x.f0, .bool x.f1, .int .i64 x.f2.f0, .int .i64 x.f2.f1, .int .i64 x.f2.f2, .string x.f2.f3]] w
   fun e w' => ∃ (A' : Option Addr) (c' : Nat), e = .returned (.agg #[.int .i64 r0, .slice A' r1.length c', .bool r2, .int .i64 r3, .int .i64 r4, .bool r5, .int .i64 r6]) ∧ (V kCh (.slice A' r1.length c') r1).P w' (fun k => ok k ∨ w0.heap.size ≤ k) ∧ Below w0.heap.size w0 w' := by
 unfold pushK at h
 have HH := Aside0.mk h
 have HQ := Aside0.mk (show queue_Push.f q lat x.f0 x.f1 x.f2.f0 x.f2.f1 x.f2.f2 x.f2.f3 c0 = some (PU q lat x c0) from push_f q lat x c0 (by omega))
 clear h hq
 go_enter Try.func19, Try.ntmps19
 go_upto_region 1 with (fail)
 generalize hg : World.alloc _ _ = w1
 replace S := S.new4 hg
 clear hg
 generalize w.heap.size + 3 = p6 at S ⊢
 generalize w.heap.size + 2 = p5 at S ⊢
 generalize w.heap.size + 1 = p4 at S ⊢
 generalize w.heap.size = p3 at S ⊢
 replace S : Kn ok w0 [(p6, .cells #[.int .i64 0, .slice none 0 0, .bool false, .int .i64 0, .int .i64 0, .bool false, .int .i64 0] TLk (0, 0)), (p5, .cells #[.string x.f0, .bool x.f1, .int .i64 x.f2.f0, .int .i64 x.f2.f1, .int .i64 x.f2.f2, .string x.f2.f3] TCh (0, 0)), (p4, .cells #[.int .i64 s, .slice A q.length cc, .bool lat, .int .i64 tok, .int .i64 at_, .bool sn, .int .i64 dg] TLk (0, 0)), (p3, .cells #[.int .i64 c0, .int .i64 c1, .int .i64 c2, .int .i64 c3] TCf (0, 0))] nil tt [V kCh (.slice A q.length cc) q] w1 := S
 cases sn with
 | true =>
  replace S : Kn ok w0 [(p6, .cells #[.int .i64 0, .slice none 0 0, .bool false, .int .i64 0, .int .i64 0, .bool false, .int .i64 0] TLk (0, 0)), (p5, .cells #[.string x.f0, .bool x.f1, .int .i64 x.f2.f0, .int .i64 x.f2.f1, .int .i64 x.f2.f2, .string x.f2.f3] TCh (0, 0)), (p4, .cells #[.int .i64 s, .slice A q.length cc, .bool lat, .int .i64 tok, .int .i64 at_, .bool true, .int .i64 dg] TLk (0, 0)), (p3, .cells #[.int .i64 c0, .int .i64 c1, .int .i64 c2, .int .i64 c3] TCf (0, 0))] nil tt [V kCh (.slice A q.length cc) q] w1 := S
  have h := HH.out
  rw [if_pos rfl] at h
  simp only [Prod.mk.injEq] at h
  obtain ⟨rfl, rfl, rfl, rfl, rfl, rfl, rfl⟩ := h
  clear HH HQ
  have l_0 : w1.cell? ⟨p4, 0, none⟩ = some (.int .i64 s) := S.cell 2 0 rfl rfl
  have l_1 : w1.cell? ⟨p4, 1, none⟩ = some (.slice A q.length cc) := S.cell 2 1 rfl rfl
  have l_2 : w1.cell? ⟨p4, 2, none⟩ = some (.bool lat) := S.cell 2 2 rfl rfl
  have l_3 : w1.cell? ⟨p4, 3, none⟩ = some (.int .i64 tok) := S.cell 2 3 rfl rfl
  have l_4 : w1.cell? ⟨p4, 4, none⟩ = some (.int .i64 at_) := S.cell 2 4 rfl rfl
  have l_5 : w1.cell? ⟨p4, 5, none⟩ = some (.bool true) := S.cell 2 5 rfl rfl
  have l_6 : w1.cell? ⟨p4, 6, none⟩ = some (.int .i64 dg) := S.cell 2 6 rfl rfl
  have r_0 : w1.cell? ⟨p6, 0, none⟩ = some (.int .i64 0) := S.cell 0 0 rfl rfl
  have zr_0 : w1.frozen? ⟨p6, 0, none⟩ = false := S.frozen 0 0 rfl
  have r_1 : w1.cell? ⟨p6, 1, none⟩ = some (.slice none 0 0) := S.cell 0 1 rfl rfl
  have zr_1 : w1.frozen? ⟨p6, 1, none⟩ = false := S.frozen 0 1 rfl
  have r_2 : w1.cell? ⟨p6, 2, none⟩ = some (.bool false) := S.cell 0 2 rfl rfl
  have zr_2 : w1.frozen? ⟨p6, 2, none⟩ = false := S.frozen 0 2 rfl
  have r_3 : w1.cell? ⟨p6, 3, none⟩ = some (.int .i64 0) := S.cell 0 3 rfl rfl
  have zr_3 : w1.frozen? ⟨p6, 3, none⟩ = false := S.frozen 0 3 rfl
  have r_4 : w1.cell? ⟨p6, 4, none⟩ = some (.int .i64 0) := S.cell 0 4 rfl rfl
  have zr_4 : w1.frozen? ⟨p6, 4, none⟩ = false := S.frozen 0 4 rfl
  have r_5 : w1.cell? ⟨p6, 5, none⟩ = some (.bool false) := S.cell 0 5 rfl rfl
  have zr_5 : w1.frozen? ⟨p6, 5, none⟩ = false := S.frozen 0 5 rfl
  have r_6 : w1.cell? ⟨p6, 6, none⟩ = some (.int .i64 0) := S.cell 0 6 rfl rfl
  have zr_6 : w1.frozen? ⟨p6, 6, none⟩ = false := S.frozen 0 6 rfl
  go_wp2
  clear l_0 l_1 l_2 l_3 l_4 l_5 l_6 r_0 zr_0 r_1 zr_1 r_2 zr_2 r_3 zr_3 r_4 zr_4 r_5 zr_5 r_6 zr_6
  generalize hg : World.setCell w1 ⟨p6, 0, none⟩ _ = w2
  replace S := S.set 0 hg rfl
  clear hg
  generalize hg : World.setCell w2 ⟨p6, 1, none⟩ _ = w3
  replace S := S.set 0 hg rfl
  clear hg
  generalize hg : World.setCell w3 ⟨p6, 2, none⟩ _ = w4
  replace S := S.set 0 hg rfl
  clear hg
  generalize hg : World.setCell w4 ⟨p6, 3, none⟩ _ = w5
  replace S := S.set 0 hg rfl
  clear hg
  generalize hg : World.setCell w5 ⟨p6, 4, none⟩ _ = w6
  replace S := S.set 0 hg rfl
  clear hg
  generalize hg : World.setCell w6 ⟨p6, 5, none⟩ _ = w7
  replace S := S.set 0 hg rfl
  clear hg
  generalize hg : World.setCell w7 ⟨p6, 6, none⟩ _ = w8
  replace S := S.set 0 hg rfl
  clear hg
  replace S : Kn ok w0 [(p6, .cells #[.int .i64 s, .slice A q.length cc, .bool lat, .int .i64 tok, .int .i64 at_, .bool true, .int .i64 dg] TLk (0, 0)), (p5, .cells #[.string x.f0, .bool x.f1, .int .i64 x.f2.f0, .int .i64 x.f2.f1, .int .i64 x.f2.f2, .string x.f2.f3] TCh (0, 0)), (p4, .cells #[.int .i64 s, .slice A q.length cc, .bool lat, .int .i64 tok, .int .i64 at_, .bool true, .int .i64 dg] TLk (0, 0)), (p3, .cells #[.int .i64 c0, .int .i64 c1, .int .i64 c2, .int .i64 c3] TCf (0, 0))] nil tt [V kCh (.slice A q.length cc) q] w8 := S
  have b6 := S.get 0 rfl
  have hV := S.out 0 rfl
  have hBe := S.bel
  clear S
  refine bodyPost_ret (results_cell_row rfl _ _ p6 TLk #[.int .i64 s, .slice A q.length cc, .bool lat, .int .i64 tok, .int .i64 at_, .bool true, .int .i64 dg] (0, 0) _ rfl b6 Try.underlying30 rfl (by kernel_rfl)) rfl ?_
  exact ⟨A, cc, rfl, hV, hBe⟩
 | false =>
  replace S : Kn ok w0 [(p6, .cells #[.int .i64 0, .slice none 0 0, .bool false, .int .i64 0, .int .i64 0, .bool false, .int .i64 0] TLk (0, 0)), (p5, .cells #[.string x.f0, .bool x.f1, .int .i64 x.f2.f0, .int .i64 x.f2.f1, .int .i64 x.f2.f2, .string x.f2.f3] TCh (0, 0)), (p4, .cells #[.int .i64 s, .slice A q.length cc, .bool lat, .int .i64 tok, .int .i64 at_, .bool false, .int .i64 dg] TLk (0, 0)), (p3, .cells #[.int .i64 c0, .int .i64 c1, .int .i64 c2, .int .i64 c3] TCf (0, 0))] nil tt [V kCh (.slice A q.length cc) q] w1 := S
  have h := HH.out
  rw [if_neg (by simp)] at h
  rcases hp : PU q lat x c0 with ⟨q2, lat2⟩
  rw [hp] at h HQ
  dsimp only at h
  replace HH := Aside0.mk h
  clear h hp
  have c_0 : w1.cell? ⟨p3, 0, none⟩ = some (.int .i64 c0) := S.cell 3 0 rfl rfl
  have l_0 : w1.cell? ⟨p4, 0, none⟩ = some (.int .i64 s) := S.cell 2 0 rfl rfl
  have l_1 : w1.cell? ⟨p4, 1, none⟩ = some (.slice A q.length cc) := S.cell 2 1 rfl rfl
  have l_2 : w1.cell? ⟨p4, 2, none⟩ = some (.bool lat) := S.cell 2 2 rfl rfl
  have l_3 : w1.cell? ⟨p4, 3, none⟩ = some (.int .i64 tok) := S.cell 2 3 rfl rfl
  have l_4 : w1.cell? ⟨p4, 4, none⟩ = some (.int .i64 at_) := S.cell 2 4 rfl rfl
  have l_5 : w1.cell? ⟨p4, 5, none⟩ = some (.bool false) := S.cell 2 5 rfl rfl
  have l_6 : w1.cell? ⟨p4, 6, none⟩ = some (.int .i64 dg) := S.cell 2 6 rfl rfl
  have x_0 : w1.cell? ⟨p5, 0, none⟩ = some (.string x.f0) := S.cell 1 0 rfl rfl
  have x_1 : w1.cell? ⟨p5, 1, none⟩ = some (.bool x.f1) := S.cell 1 1 rfl rfl
  have x_2 : w1.cell? ⟨p5, 2, none⟩ = some (.int .i64 x.f2.f0) := S.cell 1 2 rfl rfl
  have x_3 : w1.cell? ⟨p5, 3, none⟩ = some (.int .i64 x.f2.f1) := S.cell 1 3 rfl rfl
  have x_4 : w1.cell? ⟨p5, 4, none⟩ = some (.int .i64 x.f2.f2) := S.cell 1 4 rfl rfl
  have x_5 : w1.cell? ⟨p5, 5, none⟩ = some (.string x.f2.f3) := S.cell 1 5 rfl rfl
  go_wp2_with fail
  refine (queue_Push.kn HQ.out (S.ft 0 rfl)).mono ?_
  rintro e w2 ⟨A2, y2, rfl, hV, hb⟩
  replace S := S.call (f := (V kCh (.slice A2 q2.length y2) q2)) hb hV
  clear c_0 l_0 l_1 l_2 l_3 l_4 l_5 l_6 x_0 x_1 x_2 x_3 x_4 x_5 hb hV HQ
  have l_1 : w2.cell? ⟨p4, 1, none⟩ = some (.slice A q.length cc) := S.cell 2 1 rfl rfl
  have zl_1 : w2.frozen? ⟨p4, 1, none⟩ = false := S.frozen 2 1 rfl
  have l_2 : w2.cell? ⟨p4, 2, none⟩ = some (.bool lat) := S.cell 2 2 rfl rfl
  have zl_2 : w2.frozen? ⟨p4, 2, none⟩ = false := S.frozen 2 2 rfl
  go_upto_region 4 with (fail)
  clear l_1 zl_1 l_2 zl_2
  generalize hg : World.setCell w2 ⟨p4, 1, none⟩ _ = w3
  replace S := S.set 2 hg rfl
  clear hg
  generalize hg : World.setCell w3 ⟨p4, 2, none⟩ _ = w4
  replace S := S.set 2 hg rfl
  clear hg
  replace S : Kn ok w0 [(p6, .cells #[.int .i64 0, .slice none 0 0, .bool false, .int .i64 0, .int .i64 0, .bool false, .int .i64 0] TLk (0, 0)), (p5, .cells #[.string x.f0, .bool x.f1, .int .i64 x.f2.f0, .int .i64 x.f2.f1, .int .i64 x.f2.f2, .string x.f2.f3] TCh (0, 0)), (p4, .cells #[.int .i64 s, .slice A2 q2.length y2, .bool lat2, .int .i64 tok, .int .i64 at_, .bool false, .int .i64 dg] TLk (0, 0)), (p3, .cells #[.int .i64 c0, .int .i64 c1, .int .i64 c2, .int .i64 c3] TCf (0, 0))] nil tt [V kCh (.slice A2 q2.length y2) q2, V kCh (.slice A q.length cc) q] w4 := S
  cases lat2 with
  | false =>
   replace S : Kn ok w0 [(p6, .cells #[.int .i64 0, .slice none 0 0, .bool false, .int .i64 0, .int .i64 0, .bool false, .int .i64 0] TLk (0, 0)), (p5, .cells #[.string x.f0, .bool x.f1, .int .i64 x.f2.f0, .int .i64 x.f2.f1, .int .i64 x.f2.f2, .string x.f2.f3] TCh (0, 0)), (p4, .cells #[.int .i64 s, .slice A2 q2.length y2, .bool false, .int .i64 tok, .int .i64 at_, .bool false, .int .i64 dg] TLk (0, 0)), (p3, .cells #[.int .i64 c0, .int .i64 c1, .int .i64 c2, .int .i64 c3] TCf (0, 0))] nil tt [V kCh (.slice A2 q2.length y2) q2, V kCh (.slice A q.length cc) q] w4 := S
   have h := HH.out
   rw [if_neg (by simp)] at h
   simp only [Prod.mk.injEq] at h
   obtain ⟨rfl, rfl, rfl, rfl, rfl, rfl, rfl⟩ := h
   clear HH
   have l_0 : w4.cell? ⟨p4, 0, none⟩ = some (.int .i64 s) := S.cell 2 0 rfl rfl
   have l_1 : w4.cell? ⟨p4, 1, none⟩ = some (.slice A2 q2.length y2) := S.cell 2 1 rfl rfl
   have l_2 : w4.cell? ⟨p4, 2, none⟩ = some (.bool false) := S.cell 2 2 rfl rfl
   have l_3 : w4.cell? ⟨p4, 3, none⟩ = some (.int .i64 tok) := S.cell 2 3 rfl rfl
   have l_4 : w4.cell? ⟨p4, 4, none⟩ = some (.int .i64 at_) := S.cell 2 4 rfl rfl
   have l_5 : w4.cell? ⟨p4, 5, none⟩ = some (.bool false) := S.cell 2 5 rfl rfl
   have l_6 : w4.cell? ⟨p4, 6, none⟩ = some (.int .i64 dg) := S.cell 2 6 rfl rfl
   have r_0 : w4.cell? ⟨p6, 0, none⟩ = some (.int .i64 0) := S.cell 0 0 rfl rfl
   have zr_0 : w4.frozen? ⟨p6, 0, none⟩ = false := S.frozen 0 0 rfl
   have r_1 : w4.cell? ⟨p6, 1, none⟩ = some (.slice none 0 0) := S.cell 0 1 rfl rfl
   have zr_1 : w4.frozen? ⟨p6, 1, none⟩ = false := S.frozen 0 1 rfl
   have r_2 : w4.cell? ⟨p6, 2, none⟩ = some (.bool false) := S.cell 0 2 rfl rfl
   have zr_2 : w4.frozen? ⟨p6, 2, none⟩ = false := S.frozen 0 2 rfl
   have r_3 : w4.cell? ⟨p6, 3, none⟩ = some (.int .i64 0) := S.cell 0 3 rfl rfl
   have zr_3 : w4.frozen? ⟨p6, 3, none⟩ = false := S.frozen 0 3 rfl
   have r_4 : w4.cell? ⟨p6, 4, none⟩ = some (.int .i64 0) := S.cell 0 4 rfl rfl
   have zr_4 : w4.frozen? ⟨p6, 4, none⟩ = false := S.frozen 0 4 rfl
   have r_5 : w4.cell? ⟨p6, 5, none⟩ = some (.bool false) := S.cell 0 5 rfl rfl
   have zr_5 : w4.frozen? ⟨p6, 5, none⟩ = false := S.frozen 0 5 rfl
   have r_6 : w4.cell? ⟨p6, 6, none⟩ = some (.int .i64 0) := S.cell 0 6 rfl rfl
   have zr_6 : w4.frozen? ⟨p6, 6, none⟩ = false := S.frozen 0 6 rfl
   go_wp2
   clear l_0 l_1 l_2 l_3 l_4 l_5 l_6 r_0 zr_0 r_1 zr_1 r_2 zr_2 r_3 zr_3 r_4 zr_4 r_5 zr_5 r_6 zr_6
   generalize hg : World.setCell w4 ⟨p6, 0, none⟩ _ = w5
   replace S := S.set 0 hg rfl
   clear hg
   generalize hg : World.setCell w5 ⟨p6, 1, none⟩ _ = w6
   replace S := S.set 0 hg rfl
   clear hg
   generalize hg : World.setCell w6 ⟨p6, 2, none⟩ _ = w7
   replace S := S.set 0 hg rfl
   clear hg
   generalize hg : World.setCell w7 ⟨p6, 3, none⟩ _ = w8
   replace S := S.set 0 hg rfl
   clear hg
   generalize hg : World.setCell w8 ⟨p6, 4, none⟩ _ = w9
   replace S := S.set 0 hg rfl
   clear hg
   generalize hg : World.setCell w9 ⟨p6, 5, none⟩ _ = w10
   replace S := S.set 0 hg rfl
   clear hg
   generalize hg : World.setCell w10 ⟨p6, 6, none⟩ _ = w11
   replace S := S.set 0 hg rfl
   clear hg
   replace S : Kn ok w0 [(p6, .cells #[.int .i64 s, .slice A2 q2.length y2, .bool false, .int .i64 tok, .int .i64 at_, .bool false, .int .i64 dg] TLk (0, 0)), (p5, .cells #[.string x.f0, .bool x.f1, .int .i64 x.f2.f0, .int .i64 x.f2.f1, .int .i64 x.f2.f2, .string x.f2.f3] TCh (0, 0)), (p4, .cells #[.int .i64 s, .slice A2 q2.length y2, .bool false, .int .i64 tok, .int .i64 at_, .bool false, .int .i64 dg] TLk (0, 0)), (p3, .cells #[.int .i64 c0, .int .i64 c1, .int .i64 c2, .int .i64 c3] TCf (0, 0))] nil tt [V kCh (.slice A2 q2.length y2) q2, V kCh (.slice A q.length cc) q] w11 := S
   have b6 := S.get 0 rfl
   have hV := S.out 0 rfl
   have hBe := S.bel
   clear S
   refine bodyPost_ret (results_cell_row rfl _ _ p6 TLk #[.int .i64 s, .slice A2 q2.length y2, .bool false, .int .i64 tok, .int .i64 at_, .bool false, .int .i64 dg] (0, 0) _ rfl b6 Try.underlying30 rfl (by kernel_rfl)) rfl ?_
   exact ⟨A2, y2, rfl, hV, hBe⟩
  | true =>
   replace S : Kn ok w0 [(p6, .cells #[.int .i64 0, .slice none 0 0, .bool false, .int .i64 0, .int .i64 0, .bool false, .int .i64 0] TLk (0, 0)), (p5, .cells #[.string x.f0, .bool x.f1, .int .i64 x.f2.f0, .int .i64 x.f2.f1, .int .i64 x.f2.f2, .string x.f2.f3] TCh (0, 0)), (p4, .cells #[.int .i64 s, .slice A2 q2.length y2, .bool true, .int .i64 tok, .int .i64 at_, .bool false, .int .i64 dg] TLk (0, 0)), (p3, .cells #[.int .i64 c0, .int .i64 c1, .int .i64 c2, .int .i64 c3] TCf (0, 0))] nil tt [V kCh (.slice A2 q2.length y2) q2, V kCh (.slice A q.length cc) q] w4 := S
   have h := HH.out
   rw [if_pos rfl] at h
   simp only [Prod.mk.injEq] at h
   obtain ⟨rfl, rfl, rfl, rfl, rfl, rfl, rfl⟩ := h
   clear HH
   have l_0 : w4.cell? ⟨p4, 0, none⟩ = some (.int .i64 s) := S.cell 2 0 rfl rfl
   have l_1 : w4.cell? ⟨p4, 1, none⟩ = some (.slice A2 q2.length y2) := S.cell 2 1 rfl rfl
   have l_2 : w4.cell? ⟨p4, 2, none⟩ = some (.bool true) := S.cell 2 2 rfl rfl
   have l_3 : w4.cell? ⟨p4, 3, none⟩ = some (.int .i64 tok) := S.cell 2 3 rfl rfl
   have l_4 : w4.cell? ⟨p4, 4, none⟩ = some (.int .i64 at_) := S.cell 2 4 rfl rfl
   have l_5 : w4.cell? ⟨p4, 5, none⟩ = some (.bool false) := S.cell 2 5 rfl rfl
   have l_6 : w4.cell? ⟨p4, 6, none⟩ = some (.int .i64 dg) := S.cell 2 6 rfl rfl
   go_wp2_with fail
   refine (link_Ask.kn (r1 := s) (r2 := []) (r3 := false) (r4 := tok) (r5 := at_) (r6 := true) (r7 := dg) rfl (S.ft 0 rfl)).mono ?_
   rintro e w5 ⟨A3, c3', rfl, hV, hb⟩
   replace S := S.call (f := (V kCh (.slice A3 ([] : List Ch).length c3') ([] : List Ch))) hb (fresh hV)
   clear l_0 l_1 l_2 l_3 l_4 l_5 l_6 hb hV
   have r_0 : w5.cell? ⟨p6, 0, none⟩ = some (.int .i64 0) := S.cell 0 0 rfl rfl
   have zr_0 : w5.frozen? ⟨p6, 0, none⟩ = false := S.frozen 0 0 rfl
   have r_1 : w5.cell? ⟨p6, 1, none⟩ = some (.slice none 0 0) := S.cell 0 1 rfl rfl
   have zr_1 : w5.frozen? ⟨p6, 1, none⟩ = false := S.frozen 0 1 rfl
   have r_2 : w5.cell? ⟨p6, 2, none⟩ = some (.bool false) := S.cell 0 2 rfl rfl
   have zr_2 : w5.frozen? ⟨p6, 2, none⟩ = false := S.frozen 0 2 rfl
   have r_3 : w5.cell? ⟨p6, 3, none⟩ = some (.int .i64 0) := S.cell 0 3 rfl rfl
   have zr_3 : w5.frozen? ⟨p6, 3, none⟩ = false := S.frozen 0 3 rfl
   have r_4 : w5.cell? ⟨p6, 4, none⟩ = some (.int .i64 0) := S.cell 0 4 rfl rfl
   have zr_4 : w5.frozen? ⟨p6, 4, none⟩ = false := S.frozen 0 4 rfl
   have r_5 : w5.cell? ⟨p6, 5, none⟩ = some (.bool false) := S.cell 0 5 rfl rfl
   have zr_5 : w5.frozen? ⟨p6, 5, none⟩ = false := S.frozen 0 5 rfl
   have r_6 : w5.cell? ⟨p6, 6, none⟩ = some (.int .i64 0) := S.cell 0 6 rfl rfl
   have zr_6 : w5.frozen? ⟨p6, 6, none⟩ = false := S.frozen 0 6 rfl
   go_wp2
   clear r_0 zr_0 r_1 zr_1 r_2 zr_2 r_3 zr_3 r_4 zr_4 r_5 zr_5 r_6 zr_6
   generalize hg : World.setCell w5 ⟨p6, 0, none⟩ _ = w6
   replace S := S.set 0 hg rfl
   clear hg
   generalize hg : World.setCell w6 ⟨p6, 1, none⟩ _ = w7
   replace S := S.set 0 hg rfl
   clear hg
   generalize hg : World.setCell w7 ⟨p6, 2, none⟩ _ = w8
   replace S := S.set 0 hg rfl
   clear hg
   generalize hg : World.setCell w8 ⟨p6, 3, none⟩ _ = w9
   replace S := S.set 0 hg rfl
   clear hg
   generalize hg : World.setCell w9 ⟨p6, 4, none⟩ _ = w10
   replace S := S.set 0 hg rfl
   clear hg
   generalize hg : World.setCell w10 ⟨p6, 5, none⟩ _ = w11
   replace S := S.set 0 hg rfl
   clear hg
   generalize hg : World.setCell w11 ⟨p6, 6, none⟩ _ = w12
   replace S := S.set 0 hg rfl
   clear hg
   replace S : Kn ok w0 [(p6, .cells #[.int .i64 s, .slice A3 ([] : List Ch).length c3', .bool false, .int .i64 tok, .int .i64 at_, .bool true, .int .i64 dg] TLk (0, 0)), (p5, .cells #[.string x.f0, .bool x.f1, .int .i64 x.f2.f0, .int .i64 x.f2.f1, .int .i64 x.f2.f2, .string x.f2.f3] TCh (0, 0)), (p4, .cells #[.int .i64 s, .slice A2 q2.length y2, .bool true, .int .i64 tok, .int .i64 at_, .bool false, .int .i64 dg] TLk (0, 0)), (p3, .cells #[.int .i64 c0, .int .i64 c1, .int .i64 c2, .int .i64 c3] TCf (0, 0))] nil tt [V kCh (.slice A3 ([] : List Ch).length c3') ([] : List Ch), V kCh (.slice A2 q2.length y2) q2, V kCh (.slice A q.length cc) q] w12 := S
   have b6 := S.get 0 rfl
   have hV := S.out 0 rfl
   have hBe := S.bel
   clear S
   refine bodyPost_ret (results_cell_row rfl _ _ p6 TLk #[.int .i64 s, .slice A3 ([] : List Ch).length c3', .bool false, .int .i64 tok, .int .i64 at_, .bool true, .int .i64 dg] (0, 0) _ rfl b6 Try.underlying30 rfl (by kernel_rfl)) rfl ?_
   exact ⟨A3, c3', rfl, hV, hBe⟩
theorem push_kn {ok : Nat → Prop} {c0 c1 c2 c3 s : Int} {A : Option Addr} {cc : Nat} {q : List Ch} {lat : Bool} {tok at_ : Int} {sn : Bool} {dg : Int} (x : Ch) {r0 : Int} {r1 : List Ch} {r2 : Bool} {r3 r4 : Int} {r5 : Bool} {r6 : Int} {w : World}
  (hq : q.length ≤ 1000) (h : pushK c0 s q lat tok at_ sn dg x = (r0, r1, r2, r3, r4, r5, r6)) (g : (V kCh (.slice A q.length cc) q).P w ok) :
  Calls Try.prog 19 #[.agg #[.int .i64 c0, .int .i64 c1, .int .i64 c2, .int .i64 c3], .agg #[.int .i64 s, .slice A q.length cc, .bool lat, .int .i64 tok, .int .i64 at_, .bool sn, .int .i64 dg], .agg #[.string x.f0, .bool x.f1, .int .i64 x.f2.f0, .int .i64 x.f2.f1, .int .i64 x.f2.f2, .string x.f2.f3]] w
   fun e w' => ∃ (A' : Option Addr) (c' : Nat), e = .returned (.agg #[.int .i64 r0, .slice A' r1.length c', .bool r2, .int .i64 r3, .int .i64 r4, .bool r5, .int .i64 r6]) ∧ (V kCh (.slice A' r1.length c') r1).P w' (fun k => ok k ∨ w.heap.size ≤ k) ∧ Below w.heap.size w w' :=
 push_go ok c0 c1 c2 c3 s A cc q lat tok at_ sn dg x r0 r1 r2 r3 r4 r5 r6 w w (Kn.enter ok w (by simpa using g)) hq h
/-- What any link tells next: of a link, a view or a tick that may not be, nothing. -/
def emitK (c0 c1 c2 c3 s : Int) (q : List Ch) (lat : Bool) (tok at_ : Int) (sn : Bool) (dg : Int) (t : List Se) (now : Int) : Option St :=
 if mayK c0 c1 c2 c3 s q lat tok at_ sn dg = true ∧ mayT t = true ∧ 0 ≤ now ∧ now ≤ 1099511627776 then emitP c0 c1 c2 c3 now t 50 ⟨s, q, sn, tok, at_, dg, []⟩ else some ⟨s, q, sn, tok, at_, dg, []⟩
theorem emitK_all (c0 c1 c2 c3 s : Int) (q : List Ch) (lat : Bool) (tok at_ : Int) (sn : Bool) (dg : Int) (t : List Se) (now : Int) (hq : q.length ≤ 40) :
  ∃ R, emitK c0 c1 c2 c3 s q lat tok at_ sn dg t now = some R ∧ R.fs.length ≤ q.length + 2 ∧ R.q.length ≤ q.length ∧ ∀ f ∈ R.fs, f.f6 = t ∨ f.f6 = [] := by
 unfold emitK
 by_cases h : mayK c0 c1 c2 c3 s q lat tok at_ sn dg = true ∧ mayT t = true ∧ 0 ≤ now ∧ now ≤ 1099511627776
 ·rw [if_pos h]
  have hm := (mayK_iff _ _ _ _ _ _ _ _ _ _ _).1 h.1
  have h1 := hm.1
  unfold XV17.OneP at h1
  have hr : XV17.rounds c3 now ⟨s, q, sn, tok, at_, dg, []⟩ ≤ q.length + 2 := by
   unfold XV17.rounds
   dsimp only
   split <;> split <;> omega
  obtain ⟨R, hR, hA, hB, hC⟩ := XV17.emit_all c0 c1 c2 c3 now t (by omega) 50 ⟨s, q, sn, tok, at_, dg, []⟩ (by omega)
  refine ⟨R, hR, ?_, hB, hC (fun f hf => by cases hf)⟩
  simp only [List.length_nil] at hA
  omega
 ·rw [if_neg h]
  exact ⟨_, rfl, Nat.zero_le _, Nat.le_refl _, fun f hf => by cases hf⟩
theorem emit_kn {ok : Nat → Prop} {c0 c1 c2 c3 s : Int} {A : Option Addr} {cc : Nat} {q : List Ch} {lat : Bool} {tok at_ : Int} {sn : Bool} {dg : Int} {B : Option Addr} {mc : Nat} {t : List Se} {now : Int} {w : World} {R : St}
  (hq : q.length ≤ 40) (hqs : ∀ x ∈ q, x.f0.size ≤ 9223372036854775807) (ht : t.length ≤ 40) (hts : ∀ x ∈ t, x.f0.size ≤ 9223372036854775807)
  (hR : emitK c0 c1 c2 c3 s q lat tok at_ sn dg t now = some R) (g1 : (V kCh (.slice A q.length cc) q).P w ok) (g2 : (V kSe (.slice B t.length mc) t).P w ok) :
  Calls Try.prog 24 #[.agg #[.int .i64 c0, .int .i64 c1, .int .i64 c2, .int .i64 c3], .agg #[.int .i64 s, .slice A q.length cc, .bool lat, .int .i64 tok, .int .i64 at_, .bool sn, .int .i64 dg], .slice B t.length mc, .int .i64 now] w
   fun e w' => ∃ (A' : Option Addr) (c' : Nat) (A2 : Option Addr) (c2' : Nat), e = .returned (.tuple #[.agg #[.int .i64 R.s, .slice A' R.q.length c', .bool lat, .int .i64 R.tok, .int .i64 R.at_, .bool R.sn, .int .i64 R.dg], .slice A2 R.fs.length c2']) ∧ (V kCh (.slice A' R.q.length c') R.q).P w' (fun k => ok k ∨ w.heap.size ≤ k) ∧ (V kFr (.slice A2 R.fs.length c2') R.fs).P w' (fun k => ok k ∨ w.heap.size ≤ k) ∧ Below w.heap.size w w' := by
 unfold emitK at hR
 have e1 := linkMayK 200 c0 c1 c2 c3 s q lat tok at_ sn dg hq hqs (by omega)
 have e2 := digMayT_b 200 t (by omega) hts (by omega)
 have e3 := ltime_b now
 by_cases h : mayK c0 c1 c2 c3 s q lat tok at_ sn dg = true ∧ mayT t = true ∧ 0 ≤ now ∧ now ≤ 1099511627776
 ·rw [if_pos h] at hR
  have hm := (mayK_iff _ _ _ _ _ _ _ _ _ _ _).1 h.1
  obtain ⟨h1, h2, h3, h4, h5, h6⟩ := hm
  subst h4
  rw [h.1] at e1
  rw [h.2.1] at e2
  rw [decide_eq_true h.2.2] at e3
  refine (emit_yes ok 200 200 50 c0 c1 c2 c3 s A cc q tok at_ sn dg B mc t now w g1 g2 e1 e2 e3 h2.1 h5.1 h5.2 h.2.2.1 h.2.2.2 ht hts (by omega) R hR).mono ?_
  rintro e w' ⟨A', c', vo, rfl, hV, hF, hb⟩
  obtain ⟨A2, c2', rfl⟩ := Kd.V_slice hF
  exact ⟨A', c', A2, c2', rfl, hV, V_any hF, hb⟩
 ·rw [if_neg h] at hR
  obtain rfl := Option.some.inj hR
  have r1 := Kd.V_reads' (e := 0) (base := 0) g1
  have r2 := Kd.V_reads' (e := 0) (base := 0) g2
  refine (emit_no 200 200 c0 c1 c2 c3 s A cc q lat tok at_ sn dg B mc t now _ _ _ w r1.2.2 r1.2.1 r2.2.2 r2.2.1 e1 e2 e3 ?_).mono ?_
  ·by_cases a : mayK c0 c1 c2 c3 s q lat tok at_ sn dg = true
   ·by_cases b : mayT t = true
    ·rw [decide_eq_false (fun c => h ⟨a, b, c⟩), Bool.and_false]
    ·rw [Bool.eq_false_iff.mpr b]; simp
   ·rw [Bool.eq_false_iff.mpr a]; simp
  ·rintro e w' ⟨rfl, hb⟩
   exact ⟨A, cc, none, 0, rfl, (V kCh _ q).mono ((V kCh _ q).step g1 (fun k _ hk => hb.block k hk)) (fun k hk => .inl hk), V_any (Kd.V_nil kFr 0 w' 0 _), hb⟩
end Go.Proofs.Ytmigglldahkngaa.XTell
end

section
/- More of Kn: a box that was made on the way. -/
namespace Go.Proofs.Ytmigglldahkngaa.XSt
set_option linter.unusedVariables false
set_option linter.unusedSimpArgs false
open Go.RowKit Go.Proofs.YtmigglldahkngaaW.PrintWords Go.Proofs.YtmigglldahkngaaW.PrintLast Go.Proofs.YtmigglldahkngaaW.PrintMore Go.Proofs.Ytmigglldahkngaa.XMem
variable {ok : Nat → Prop} {w0 w w1 : World} {L : List (Nat × Obj)} {u : Value} {U : Ft} {I : List Ft}
/-- A box that was made on the way. -/
theorem Kn.newAt (S : Kn ok w0 L u U I w) (hb : Below w.heap.size w w1) {p : Nat} {o : Obj} (hp : w.heap.size ≤ p) (ho : w1.heap[p]? = some o) : Kn ok w0 ((p, o) :: L) u U I w1 := by
 have S1 := S.below hb
 refine ⟨S1.bel, ?_, ?_, ?_, ?_, ?_, ?_⟩
 ·intro x hx
  rcases List.mem_cons.1 hx with rfl | hx
  ·exact ho
  ·exact S1.mem x hx
 ·intro x hx
  rcases List.mem_cons.1 hx with rfl | hx
  ·exact Nat.le_trans S.bel.size hp
  ·exact S.base x hx
 ·refine List.pairwise_cons.2 ⟨fun x hx => ?_, S.nod⟩
  have := S.lt hx
  show p ≠ x.1
  omega
 ·refine U.mono (U.step (U.bound S.own) (fun k _ hk => hb.block k hk)) (fun k hk => ⟨hk.1.1, fun x hx => ?_⟩)
  rcases List.mem_cons.1 hx with rfl | hx
  ·have := hk.2
   show k ≠ p
   omega
  ·exact hk.1.2 x hx
 ·intro k hk
  obtain ⟨h1, h2, h3⟩ := S.oob k hk
  refine ⟨fun x hx => ?_, Nat.lt_of_lt_of_le h2 hb.size, h3⟩
  rcases List.mem_cons.1 hx with rfl | hx
  ·show k ≠ p
   omega
  ·exact h1 x hx
 ·intro f hf
  refine f.mono (f.step (f.bound (S.ims f hf)) (fun k _ hk => hb.block k hk)) (fun k hk => ⟨⟨hk.1.1.1, fun x hx => ?_⟩, hk.1.2⟩)
  rcases List.mem_cons.1 hx with rfl | hx
  ·have := hk.2
   show k ≠ p
   omega
  ·exact hk.1.1.2 x hx
theorem Ft.below {f : Ft} (h : f.P w ok) (hb : Below w.heap.size w w1) : f.P w1 ok := f.step h (fun k _ hk => hb.block k hk)
theorem Ft.all {f : Ft} (h : f.P w ok) : f.P w (fun _ => True) := f.mono h (fun _ _ => trivial)
end Go.Proofs.Ytmigglldahkngaa.XSt
end

section
/- law18's live, walked. -/
namespace Go.Proofs.Ytmigglldahkngaa.XTell
open Go.RowKit Go.Proofs.YtmigglldahkngaaW.PrintWords Go.Proofs.YtmigglldahkngaaW.PrintLast Go.Proofs.YtmigglldahkngaaW.PrintMore Go.Proofs.Ytmigglldahkngaa.PA Go.Proofs.Ytmigglldahkngaa.XMem Go.Proofs.Ytmigglldahkngaa.XSum Go.Proofs.Ytmigglldahkngaa.XSt Go.Proofs.Ytmigglldahkngaa.XKn Go.Proofs.Ytmigglldahkngaa.XQuiet
open Go.Proofs.Ytmigglldahkngaa.XV17 (mayT mayK pushK newK newK_b quiet_b linkMayK same18)
set_option linter.unusedVariables false
set_option linter.unusedSimpArgs false
set_option maxRecDepth 100000
abbrev sa : ByteArray := ⟨#[97]⟩
abbrev sb : ByteArray := ⟨#[98]⟩
abbrev sc : ByteArray := ⟨#[99]⟩
abbrev s0 : ByteArray := ⟨#[]⟩
abbrev chg (s : ByteArray) : Ch := ⟨s, false, ⟨0, 0, 0, s0⟩⟩
abbrev tab : List Se := [⟨sa, ⟨4, 0, 0, s0⟩⟩]
abbrev fr1 : Fr := ⟨3, 0, false, s0, ⟨0, 0, 0, s0⟩, 0, tab⟩
abbrev fr2 : Fr := ⟨1, 1, false, sa, ⟨0, 0, 0, s0⟩, 0, []⟩
abbrev fr3 : Fr := ⟨1, 2, false, sb, ⟨0, 0, 0, s0⟩, 0, []⟩
abbrev fr4 : Fr := ⟨2, 3, false, s0, ⟨0, 0, 0, s0⟩, sumB [], []⟩
theorem kCh_heap : Kd.Heap kCh := ⟨fun _ hK => by obtain rfl := k34_open hK; exact k34_mk _ _⟩
theorem kSe_heap : Kd.Heap kSe := ⟨fun _ hK => by obtain rfl := k72_open hK; exact k72_mk _ _⟩
theorem farL {w : World} {p t n c : Nat} {A : Option Addr} {a b d e : Int} {x y : Bool} {v : Value} {l : List Ch} (h : (V kCh v l).P w (fun _ => True)) (hp : w.heap[p]? = some (.cells #[.int .i64 a, .slice A n c, .bool x, .int .i64 b, .int .i64 d, .bool y, .int .i64 e] t (0, 0))) (i : Nat) (u : Value) : (V kCh v l).P (w.setCell ⟨p, i, none⟩ u) (fun _ => True) := by
 obtain ⟨B, d, rfl, hc, hC⟩ := Im.slice h
 have hC' : kCh.C (w.setCell ⟨p, i, none⟩ u) B l.length l := by
  refine Kd.C_foot_ne (fun {_ _ _ _} hK => by obtain rfl := k34_open hK; exact k34_mk _ _) hC (fun ad ha hn hg => ?_) _ ((KeepBut.refl w p none).set_ i u)
  obtain ⟨ad', he, h0, _⟩ := at_T34 hC 0 (by omega) (by omega)
  rw [ha] at he
  injection he with he
  subst he
  obtain ⟨bl, of, fr⟩ := ad
  simp only at hg
  subst hg
  rw [show Int.toNat 0 * 6 = 0 from rfl] at h0
  cases fr with
  | some q => simp [Addr.add, World.cell?, hp] at h0
  | none =>
   have h1 := blk_cell hp of
   simp only [Addr.add, if_true] at h0
   rw [h1] at h0
   rcases of with _ | _ | _ | _ | _ | _ | _ | of <;> simp at h0
 exact ⟨B, d, rfl, hc, Kd.F_mono (Kd.C_F kCh_heap hC') (fun _ _ => trivial)⟩
theorem push_n {ok : Nat → Prop} {c0 c1 c2 c3 s : Int} {A : Option Addr} {cc : Nat} {q : List Ch} {lat : Bool} {tok at_ : Int} {sn : Bool} {dg : Int} (n n' : Nat) (x : Ch) (y0 : ByteArray) (y1 : Bool) (y2 y3 y4 : Int) (y5 : ByteArray) {r0 : Int} {r1 : List Ch} {r2 : Bool} {r3 r4 : Int} {r5 : Bool} {r6 : Int} {w : World}
  (h : pushK c0 s q lat tok at_ sn dg x = (r0, r1, r2, r3, r4, r5, r6)) (g : (V kCh (.slice A n cc) q).P w ok) (hx : x = ⟨y0, y1, ⟨y2, y3, y4, y5⟩⟩) (hn : q.length = n) (hn' : r1.length = n') (hq : q.length ≤ 1000) :
  Calls Try.prog 19 #[.agg #[.int .i64 c0, .int .i64 c1, .int .i64 c2, .int .i64 c3], .agg #[.int .i64 s, .slice A n cc, .bool lat, .int .i64 tok, .int .i64 at_, .bool sn, .int .i64 dg], .agg #[.string y0, .bool y1, .int .i64 y2, .int .i64 y3, .int .i64 y4, .string y5]] w
   fun e w' => ∃ (A' : Option Addr) (c' : Nat), e = .returned (.agg #[.int .i64 r0, .slice A' n' c', .bool r2, .int .i64 r3, .int .i64 r4, .bool r5, .int .i64 r6]) ∧ (V kCh (.slice A' n' c') r1).P w' (fun k => ok k ∨ w.heap.size ≤ k) ∧ Below w.heap.size w w' := by
 subst hn
 subst hn'
 subst hx
 exact push_kn (⟨y0, y1, ⟨y2, y3, y4, y5⟩⟩ : Ch) hq h g
theorem set7 {w g : World} {p : Nat} {v : Value} {l : List Ch} {s t a d : Int} {A : Option Addr} {n c : Nat} {b y : Bool} (T : w.heap[p]? = some (.cells #[.int .i64 0, .slice none 0 0, .bool false, .int .i64 0, .int .i64 0, .bool false, .int .i64 0] TLk (0, 0))) (h : (V kCh v l).P w (fun _ => True)) (hb : Below g.heap.size g w) (hg : g.heap.size ≤ p) :
  (((((((w.setCell ⟨p, 0, none⟩ (.int .i64 s)).setCell ⟨p, 1, none⟩ (.slice A n c)).setCell ⟨p, 2, none⟩ (.bool b)).setCell ⟨p, 3, none⟩ (.int .i64 t)).setCell ⟨p, 4, none⟩ (.int .i64 a)).setCell ⟨p, 5, none⟩ (.bool y)).setCell ⟨p, 6, none⟩ (.int .i64 d)).heap[p]? = some (.cells #[.int .i64 s, .slice A n c, .bool b, .int .i64 t, .int .i64 a, .bool y, .int .i64 d] TLk (0, 0)) ∧ (V kCh v l).P (((((((w.setCell ⟨p, 0, none⟩ (.int .i64 s)).setCell ⟨p, 1, none⟩ (.slice A n c)).setCell ⟨p, 2, none⟩ (.bool b)).setCell ⟨p, 3, none⟩ (.int .i64 t)).setCell ⟨p, 4, none⟩ (.int .i64 a)).setCell ⟨p, 5, none⟩ (.bool y)).setCell ⟨p, 6, none⟩ (.int .i64 d)) (fun _ => True) ∧ Below g.heap.size g (((((((w.setCell ⟨p, 0, none⟩ (.int .i64 s)).setCell ⟨p, 1, none⟩ (.slice A n c)).setCell ⟨p, 2, none⟩ (.bool b)).setCell ⟨p, 3, none⟩ (.int .i64 t)).setCell ⟨p, 4, none⟩ (.int .i64 a)).setCell ⟨p, 5, none⟩ (.bool y)).setCell ⟨p, 6, none⟩ (.int .i64 d)) := by
 have b0 : (w.setCell ⟨p, 0, none⟩ (.int .i64 s)).heap[p]? = some (.cells #[.int .i64 s, .slice none 0 0, .bool false, .int .i64 0, .int .i64 0, .bool false, .int .i64 0] TLk (0, 0)) := blk_set T 0 _
 have f0 : (V kCh v l).P (w.setCell ⟨p, 0, none⟩ (.int .i64 s)) (fun _ => True) := farL h T 0 _
 have n0 : Below g.heap.size g (w.setCell ⟨p, 0, none⟩ (.int .i64 s)) := below_set hb hg
 have b1 : ((w.setCell ⟨p, 0, none⟩ (.int .i64 s)).setCell ⟨p, 1, none⟩ (.slice A n c)).heap[p]? = some (.cells #[.int .i64 s, .slice A n c, .bool false, .int .i64 0, .int .i64 0, .bool false, .int .i64 0] TLk (0, 0)) := blk_set b0 1 _
 have f1 : (V kCh v l).P ((w.setCell ⟨p, 0, none⟩ (.int .i64 s)).setCell ⟨p, 1, none⟩ (.slice A n c)) (fun _ => True) := farL f0 b0 1 _
 have n1 : Below g.heap.size g ((w.setCell ⟨p, 0, none⟩ (.int .i64 s)).setCell ⟨p, 1, none⟩ (.slice A n c)) := below_set n0 hg
 have b2 : (((w.setCell ⟨p, 0, none⟩ (.int .i64 s)).setCell ⟨p, 1, none⟩ (.slice A n c)).setCell ⟨p, 2, none⟩ (.bool b)).heap[p]? = some (.cells #[.int .i64 s, .slice A n c, .bool b, .int .i64 0, .int .i64 0, .bool false, .int .i64 0] TLk (0, 0)) := blk_set b1 2 _
 have f2 : (V kCh v l).P (((w.setCell ⟨p, 0, none⟩ (.int .i64 s)).setCell ⟨p, 1, none⟩ (.slice A n c)).setCell ⟨p, 2, none⟩ (.bool b)) (fun _ => True) := farL f1 b1 2 _
 have n2 : Below g.heap.size g (((w.setCell ⟨p, 0, none⟩ (.int .i64 s)).setCell ⟨p, 1, none⟩ (.slice A n c)).setCell ⟨p, 2, none⟩ (.bool b)) := below_set n1 hg
 have b3 : ((((w.setCell ⟨p, 0, none⟩ (.int .i64 s)).setCell ⟨p, 1, none⟩ (.slice A n c)).setCell ⟨p, 2, none⟩ (.bool b)).setCell ⟨p, 3, none⟩ (.int .i64 t)).heap[p]? = some (.cells #[.int .i64 s, .slice A n c, .bool b, .int .i64 t, .int .i64 0, .bool false, .int .i64 0] TLk (0, 0)) := blk_set b2 3 _
 have f3 : (V kCh v l).P ((((w.setCell ⟨p, 0, none⟩ (.int .i64 s)).setCell ⟨p, 1, none⟩ (.slice A n c)).setCell ⟨p, 2, none⟩ (.bool b)).setCell ⟨p, 3, none⟩ (.int .i64 t)) (fun _ => True) := farL f2 b2 3 _
 have n3 : Below g.heap.size g ((((w.setCell ⟨p, 0, none⟩ (.int .i64 s)).setCell ⟨p, 1, none⟩ (.slice A n c)).setCell ⟨p, 2, none⟩ (.bool b)).setCell ⟨p, 3, none⟩ (.int .i64 t)) := below_set n2 hg
 have b4 : (((((w.setCell ⟨p, 0, none⟩ (.int .i64 s)).setCell ⟨p, 1, none⟩ (.slice A n c)).setCell ⟨p, 2, none⟩ (.bool b)).setCell ⟨p, 3, none⟩ (.int .i64 t)).setCell ⟨p, 4, none⟩ (.int .i64 a)).heap[p]? = some (.cells #[.int .i64 s, .slice A n c, .bool b, .int .i64 t, .int .i64 a, .bool false, .int .i64 0] TLk (0, 0)) := blk_set b3 4 _
 have f4 : (V kCh v l).P (((((w.setCell ⟨p, 0, none⟩ (.int .i64 s)).setCell ⟨p, 1, none⟩ (.slice A n c)).setCell ⟨p, 2, none⟩ (.bool b)).setCell ⟨p, 3, none⟩ (.int .i64 t)).setCell ⟨p, 4, none⟩ (.int .i64 a)) (fun _ => True) := farL f3 b3 4 _
 have n4 : Below g.heap.size g (((((w.setCell ⟨p, 0, none⟩ (.int .i64 s)).setCell ⟨p, 1, none⟩ (.slice A n c)).setCell ⟨p, 2, none⟩ (.bool b)).setCell ⟨p, 3, none⟩ (.int .i64 t)).setCell ⟨p, 4, none⟩ (.int .i64 a)) := below_set n3 hg
 have b5 : ((((((w.setCell ⟨p, 0, none⟩ (.int .i64 s)).setCell ⟨p, 1, none⟩ (.slice A n c)).setCell ⟨p, 2, none⟩ (.bool b)).setCell ⟨p, 3, none⟩ (.int .i64 t)).setCell ⟨p, 4, none⟩ (.int .i64 a)).setCell ⟨p, 5, none⟩ (.bool y)).heap[p]? = some (.cells #[.int .i64 s, .slice A n c, .bool b, .int .i64 t, .int .i64 a, .bool y, .int .i64 0] TLk (0, 0)) := blk_set b4 5 _
 have f5 : (V kCh v l).P ((((((w.setCell ⟨p, 0, none⟩ (.int .i64 s)).setCell ⟨p, 1, none⟩ (.slice A n c)).setCell ⟨p, 2, none⟩ (.bool b)).setCell ⟨p, 3, none⟩ (.int .i64 t)).setCell ⟨p, 4, none⟩ (.int .i64 a)).setCell ⟨p, 5, none⟩ (.bool y)) (fun _ => True) := farL f4 b4 5 _
 have n5 : Below g.heap.size g ((((((w.setCell ⟨p, 0, none⟩ (.int .i64 s)).setCell ⟨p, 1, none⟩ (.slice A n c)).setCell ⟨p, 2, none⟩ (.bool b)).setCell ⟨p, 3, none⟩ (.int .i64 t)).setCell ⟨p, 4, none⟩ (.int .i64 a)).setCell ⟨p, 5, none⟩ (.bool y)) := below_set n4 hg
 have b6 : (((((((w.setCell ⟨p, 0, none⟩ (.int .i64 s)).setCell ⟨p, 1, none⟩ (.slice A n c)).setCell ⟨p, 2, none⟩ (.bool b)).setCell ⟨p, 3, none⟩ (.int .i64 t)).setCell ⟨p, 4, none⟩ (.int .i64 a)).setCell ⟨p, 5, none⟩ (.bool y)).setCell ⟨p, 6, none⟩ (.int .i64 d)).heap[p]? = some (.cells #[.int .i64 s, .slice A n c, .bool b, .int .i64 t, .int .i64 a, .bool y, .int .i64 d] TLk (0, 0)) := blk_set b5 6 _
 have f6 : (V kCh v l).P (((((((w.setCell ⟨p, 0, none⟩ (.int .i64 s)).setCell ⟨p, 1, none⟩ (.slice A n c)).setCell ⟨p, 2, none⟩ (.bool b)).setCell ⟨p, 3, none⟩ (.int .i64 t)).setCell ⟨p, 4, none⟩ (.int .i64 a)).setCell ⟨p, 5, none⟩ (.bool y)).setCell ⟨p, 6, none⟩ (.int .i64 d)) (fun _ => True) := farL f5 b5 6 _
 have n6 : Below g.heap.size g (((((((w.setCell ⟨p, 0, none⟩ (.int .i64 s)).setCell ⟨p, 1, none⟩ (.slice A n c)).setCell ⟨p, 2, none⟩ (.bool b)).setCell ⟨p, 3, none⟩ (.int .i64 t)).setCell ⟨p, 4, none⟩ (.int .i64 a)).setCell ⟨p, 5, none⟩ (.bool y)).setCell ⟨p, 6, none⟩ (.int .i64 d)) := below_set n5 hg
 exact ⟨b6, f6, n6⟩
theorem add10 (a : Addr) : a.add 10 = ⟨a.block, a.off + 10, none⟩ := by simp [Addr.add]
theorem add0 (a : Addr) : a.add 0 = a := by simp [Addr.add]
theorem live_x : link_May.f 200 2 2 1 5 4 [] false 0 16 false 16 = some true := by kernel_rfl
theorem live_y : link_May.f 200 2 2 1 5 (-1) [] false 0 0 false 0 = some false := by kernel_rfl
theorem live_m : emitK 2 2 1 5 0 [] false 2 10 true 10 tab 10 = some ⟨1, [], false, 1, 10, 10, [fr1]⟩ := by kernel_rfl
theorem live_o : emitK 2 2 1 5 1 [chg sa, chg sb] false 1 10 false 10 [] 10 = some ⟨2, [chg sb], false, 0, 10, 10, [fr2]⟩ := by kernel_rfl
theorem live_p : emitK 2 2 1 5 2 [chg sb] false 0 10 false 10 [] 10 = some ⟨2, [chg sb], false, 0, 10, 10, []⟩ := by kernel_rfl
theorem live_q : emitK 2 2 1 5 2 [chg sb] false 0 10 false 10 [] 16 = some ⟨4, [], false, 0, 16, 16, [fr3, fr4]⟩ := by kernel_rfl
theorem live_n1 : pushK 2 1 [] false 1 10 false 10 (chg sa) = (1, [chg sa], false, 1, 10, false, 10) := by kernel_rfl
theorem live_n2 : pushK 2 1 [chg sa] false 1 10 false 10 (chg sb) = (1, [chg sa, chg sb], false, 1, 10, false, 10) := by kernel_rfl
theorem live_r : pushK 2 1 [chg sa, chg sb] false 1 10 false 10 (chg sc) = (1, [], false, 1, 10, true, 10) := by kernel_rfl
set_option maxHeartbeats 8000000 in
theorem live_go (ok : Nat → Prop) (w0 w : World) (S : Kn ok w0 [] nil tt [] w) :
  Calls Try.prog 11 #[] w fun e w' => e = .returned (.bool true) ∧ Below w0.heap.size w0 w' := by
 go_enter Try.func11, Try.ntmps11
 go_upto_region 2 with (fail)
 generalize hg : World.alloc _ _ = w1
 replace S := S.new hg
 clear hg
 generalize w.heap.size = p1 at S ⊢
 replace S : Kn ok w0 [(p1, .cells #[.int .i64 2, .int .i64 2, .int .i64 1, .int .i64 5] TCf (0, 0))] nil tt [] w1 := S
 go_upto_region 3 with (fail)
 generalize hg : World.alloc _ _ = w2
 replace S := S.new hg
 clear hg
 generalize w1.heap.size = p2 at S ⊢
 replace S : Kn ok w0 [(p2, .cells #[.int .i64 4, .int .i64 0, .int .i64 0, .string s0] 32 (0, 0)), (p1, .cells #[.int .i64 2, .int .i64 2, .int .i64 1, .int .i64 5] TCf (0, 0))] nil tt [] w2 := S
 have v_0 : w2.cell? ⟨p2, 0, none⟩ = some (.int .i64 4) := S.cell 0 0 rfl rfl
 have v_1 : w2.cell? ⟨p2, 1, none⟩ = some (.int .i64 0) := S.cell 0 1 rfl rfl
 have v_2 : w2.cell? ⟨p2, 2, none⟩ = some (.int .i64 0) := S.cell 0 2 rfl rfl
 have v_3 : w2.cell? ⟨p2, 3, none⟩ = some (.string s0) := S.cell 0 3 rfl rfl
 go_upto_region 4 with (fail)
 generalize hg : World.alloc _ _ = w3
 have ht : (V kSe (.slice (some ⟨w2.heap.size, 0, none⟩) 1 1) tab).P w3 (fun _ => True) := by
  have := Im.lit kSe hg (xs := tab) (Reps.c5 (k72_mkM _ _ _ (⟨sa, ⟨4, 0, 0, s0⟩⟩ : Se)) (Reps.none _ _)) (by simp)
  exact this
 replace S := S.new hg
 clear hg
 generalize w2.heap.size = p3 at S ht ⊢
 clear v_0 v_1 v_2 v_3
 replace S : Kn ok w0 [(p3, .cells #[.string sa, .int .i64 4, .int .i64 0, .int .i64 0, .string s0] 72 (0, 0)), (p2, .cells #[.int .i64 4, .int .i64 0, .int .i64 0, .string s0] 32 (0, 0)), (p1, .cells #[.int .i64 2, .int .i64 2, .int .i64 1, .int .i64 5] TCf (0, 0))] nil tt [] w3 := S
 have c_0 : w3.cell? ⟨p1, 0, none⟩ = some (.int .i64 2) := S.cell 2 0 rfl rfl
 have c_1 : w3.cell? ⟨p1, 1, none⟩ = some (.int .i64 2) := S.cell 2 1 rfl rfl
 have c_2 : w3.cell? ⟨p1, 2, none⟩ = some (.int .i64 1) := S.cell 2 2 rfl rfl
 have c_3 : w3.cell? ⟨p1, 3, none⟩ = some (.int .i64 5) := S.cell 2 3 rfl rfl
 go_wp2_with fail
 refine (link_New.kn (newK_b 2 2 1 5 10)).mono ?_
 rintro e w4 ⟨A4, e4, rfl, hV, hb⟩
 replace S := S.below hb
 replace ht := Ft.below ht hb
 have hl := Ft.all hV
 clear hV
 clear c_0 c_1 c_2 c_3 hb
 skip
 go_upto_region 5 with (fail)
 generalize hg : World.alloc _ _ = w5
 replace S := S.new hg
 have hbx : Below w4.heap.size w4 w5 := hg ▸ (by repeat (first | exact Below.refl _ _ | apply below_alloc))
 replace ht := Ft.below ht hbx
 replace hl := Ft.below hl hbx
 clear hbx
 clear hg
 generalize w4.heap.size = p4 at S ⊢
 replace S : Kn ok w0 [(p4, .cells #[.int .i64 0, .slice A4 0 e4, .bool false, .int .i64 2, .int .i64 10, .bool true, .int .i64 10] TLk (0, 0)), (p3, .cells #[.string sa, .int .i64 4, .int .i64 0, .int .i64 0, .string s0] 72 (0, 0)), (p2, .cells #[.int .i64 4, .int .i64 0, .int .i64 0, .string s0] 32 (0, 0)), (p1, .cells #[.int .i64 2, .int .i64 2, .int .i64 1, .int .i64 5] TCf (0, 0))] nil tt [] w5 := S
 go_wp2_with fail
 refine (link_New.kn (newK_b 0 0 0 0 10)).mono ?_
 rintro e w6 ⟨A6, e6, rfl, hV, hb⟩
 replace S := S.below hb
 replace ht := Ft.below ht hb
 replace hl := Ft.below hl hb
 clear hb hV
 go_upto_region 6 with (fail)
 generalize hg : World.alloc _ _ = w7
 replace S := S.new hg
 have hbx : Below w6.heap.size w6 w7 := hg ▸ (by repeat (first | exact Below.refl _ _ | apply below_alloc))
 replace ht := Ft.below ht hbx
 replace hl := Ft.below hl hbx
 clear hbx
 clear hg
 generalize w6.heap.size = p6 at S ⊢
 replace S : Kn ok w0 [(p6, .cells #[.int .i64 0, .slice A6 0 e6, .bool false, .int .i64 0, .int .i64 0, .bool false, .int .i64 0] TLk (0, 0)), (p4, .cells #[.int .i64 0, .slice A4 0 e4, .bool false, .int .i64 2, .int .i64 10, .bool true, .int .i64 10] TLk (0, 0)), (p3, .cells #[.string sa, .int .i64 4, .int .i64 0, .int .i64 0, .string s0] 72 (0, 0)), (p2, .cells #[.int .i64 4, .int .i64 0, .int .i64 0, .string s0] 32 (0, 0)), (p1, .cells #[.int .i64 2, .int .i64 2, .int .i64 1, .int .i64 5] TCf (0, 0))] nil tt [] w7 := S
 have c_0 : w7.cell? ⟨p1, 0, none⟩ = some (.int .i64 2) := S.cell 4 0 rfl rfl
 have c_1 : w7.cell? ⟨p1, 1, none⟩ = some (.int .i64 2) := S.cell 4 1 rfl rfl
 have c_2 : w7.cell? ⟨p1, 2, none⟩ = some (.int .i64 1) := S.cell 4 2 rfl rfl
 have c_3 : w7.cell? ⟨p1, 3, none⟩ = some (.int .i64 5) := S.cell 4 3 rfl rfl
 have l_0 : w7.cell? ⟨p4, 0, none⟩ = some (.int .i64 0) := S.cell 1 0 rfl rfl
 have l_1 : w7.cell? ⟨p4, 1, none⟩ = some (.slice A4 0 e4) := S.cell 1 1 rfl rfl
 have l_2 : w7.cell? ⟨p4, 2, none⟩ = some (.bool false) := S.cell 1 2 rfl rfl
 have l_3 : w7.cell? ⟨p4, 3, none⟩ = some (.int .i64 2) := S.cell 1 3 rfl rfl
 have l_4 : w7.cell? ⟨p4, 4, none⟩ = some (.int .i64 10) := S.cell 1 4 rfl rfl
 have l_5 : w7.cell? ⟨p4, 5, none⟩ = some (.bool true) := S.cell 1 5 rfl rfl
 have l_6 : w7.cell? ⟨p4, 6, none⟩ = some (.int .i64 10) := S.cell 1 6 rfl rfl
 go_wp2_with fail
 refine (emit_kn (ok := fun _ => True) (by decide) (by decide) (by decide) (by decide) live_m hl ht).mono ?_
 rintro e w8 ⟨A8, e8, B8, d8, rfl, hV, hF, hb⟩
 replace S := S.below hb
 replace ht := Ft.below ht hb
 replace hl := Ft.below hl hb
 have hm := Ft.all hV
 clear hV
 have fm := Ft.all hF
 clear hF
 clear c_0 c_1 c_2 c_3 l_0 l_1 l_2 l_3 l_4 l_5 l_6 hb
 go_upto_region 7 with (fail)
 generalize hg : World.alloc _ _ = w9
 replace S := S.new hg
 have hbx : Below w8.heap.size w8 w9 := hg ▸ (by repeat (first | exact Below.refl _ _ | apply below_alloc))
 replace ht := Ft.below ht hbx
 replace hl := Ft.below hl hbx
 replace hm := Ft.below hm hbx
 replace fm := Ft.below fm hbx
 clear hbx
 clear hg
 generalize w8.heap.size = p8 at S ⊢
 replace S : Kn ok w0 [(p8, .cells #[.int .i64 1, .slice A8 0 e8, .bool false, .int .i64 1, .int .i64 10, .bool false, .int .i64 10] TLk (0, 0)), (p6, .cells #[.int .i64 0, .slice A6 0 e6, .bool false, .int .i64 0, .int .i64 0, .bool false, .int .i64 0] TLk (0, 0)), (p4, .cells #[.int .i64 0, .slice A4 0 e4, .bool false, .int .i64 2, .int .i64 10, .bool true, .int .i64 10] TLk (0, 0)), (p3, .cells #[.string sa, .int .i64 4, .int .i64 0, .int .i64 0, .string s0] 72 (0, 0)), (p2, .cells #[.int .i64 4, .int .i64 0, .int .i64 0, .string s0] 32 (0, 0)), (p1, .cells #[.int .i64 2, .int .i64 2, .int .i64 1, .int .i64 5] TCf (0, 0))] nil tt [] w9 := S
 have SS : ∀ w' : World, Below w9.heap.size w9 w' → w'.cell? ⟨p1, 0, none⟩ = some (.int .i64 2) ∧ w'.cell? ⟨p1, 1, none⟩ = some (.int .i64 2) ∧ w'.cell? ⟨p1, 2, none⟩ = some (.int .i64 1) ∧ w'.cell? ⟨p1, 3, none⟩ = some (.int .i64 5) ∧ w'.cell? ⟨p8, 0, none⟩ = some (.int .i64 1) ∧ w'.cell? ⟨p8, 1, none⟩ = some (.slice A8 0 e8) ∧ w'.cell? ⟨p8, 2, none⟩ = some (.bool false) ∧ w'.cell? ⟨p8, 3, none⟩ = some (.int .i64 1) ∧ w'.cell? ⟨p8, 4, none⟩ = some (.int .i64 10) ∧ w'.cell? ⟨p8, 5, none⟩ = some (.bool false) ∧ w'.cell? ⟨p8, 6, none⟩ = some (.int .i64 10) := fun w' hb => by
  have S := S.below hb
  exact ⟨S.cell 5 0 rfl rfl, S.cell 5 1 rfl rfl, S.cell 5 2 rfl rfl, S.cell 5 3 rfl rfl, S.cell 0 0 rfl rfl, S.cell 0 1 rfl rfl, S.cell 0 2 rfl rfl, S.cell 0 3 rfl rfl, S.cell 0 4 rfl rfl, S.cell 0 5 rfl rfl, S.cell 0 6 rfl rfl⟩
 have HS := Aside0.mk S
 clear S
 have hm0 : (V kCh (.slice A8 0 e8) []).P w9 (fun _ => True) := hm
 go_wp2_with fail
 go_cut [10] (fun s10 wx => ∃ p A c, s10 = .pointer (some ⟨p, 0, none⟩) ∧ wx.heap[p]? = some (.cells #[.int .i64 1, .slice A 2 c, .bool false, .int .i64 1, .int .i64 10, .bool false, .int .i64 10] TLk (0, 0)) ∧ (V kCh (.slice A 2 c) [chg sa, chg sb]).P wx (fun _ => True) ∧ Below w9.heap.size w9 wx ∧ w9.heap.size ≤ p)
 case first =>
  go_region_held3 (fun w' => w'.cell? ⟨p1, 0, none⟩ = some (.int .i64 2) ∧ w'.cell? ⟨p1, 1, none⟩ = some (.int .i64 2) ∧ w'.cell? ⟨p1, 2, none⟩ = some (.int .i64 1) ∧ w'.cell? ⟨p1, 3, none⟩ = some (.int .i64 5) ∧ w'.cell? ⟨p8, 0, none⟩ = some (.int .i64 1) ∧ w'.cell? ⟨p8, 1, none⟩ = some (.slice A8 0 e8) ∧ w'.cell? ⟨p8, 2, none⟩ = some (.bool false) ∧ w'.cell? ⟨p8, 3, none⟩ = some (.int .i64 1) ∧ w'.cell? ⟨p8, 4, none⟩ = some (.int .i64 10) ∧ w'.cell? ⟨p8, 5, none⟩ = some (.bool false) ∧ w'.cell? ⟨p8, 6, none⟩ = some (.int .i64 10)) (exact SS _ (by with_reducible repeat (first | assumption | apply below_alloc | apply below_drew1 | refine below_set ?_ (by first | exact hb2.size | exact hb1.size | exact Nat.le_refl _) | exact Below.refl _ _))) (first | (go_at_call 19; (with_reducible refine (push_n (ok := fun _ => True) 1 2 (chg sb) sb false 0 0 0 s0 live_n2 (Ft.below hp1 ?hq) rfl rfl rfl (by decide)).mono ?_); (case hq => with_reducible repeat (first | assumption | apply below_alloc | apply below_drew1 | exact Below.refl _ _)); rintro e x2 ⟨A2, d2, rfl, hp2, hb⟩; replace hp2 := Ft.all hp2; have hb2 := below_step (show Below w9.heap.size w9 _ from (by with_reducible repeat (first | assumption | apply below_alloc | apply below_drew1 | refine below_set ?_ (by first | exact hb2.size | exact hb1.size | exact Nat.le_refl _) | exact Below.refl _ _))) hb; (first | replace T5 := blk_below T5 hb | have T5 := blk_below (heap_alloc_new _ _) hb | have T5 := blk_below (new_drew _ _) hb | skip); (try rw [show w9.drew.heap.size = w9.heap.size from rfl] at T5); (try (have k0_ := (blk_cell T5 0).trans rfl; have z0_ := blk_frozen T5 0; have k1_ := (blk_cell T5 1).trans rfl; have z1_ := blk_frozen T5 1; have k2_ := (blk_cell T5 2).trans rfl; have z2_ := blk_frozen T5 2; have k3_ := (blk_cell T5 3).trans rfl; have z3_ := blk_frozen T5 3; have k4_ := (blk_cell T5 4).trans rfl; have z4_ := blk_frozen T5 4; have k5_ := (blk_cell T5 5).trans rfl; have z5_ := blk_frozen T5 5; have k6_ := (blk_cell T5 6).trans rfl; have z6_ := blk_frozen T5 6)); clear hb) | (go_at_call 19; (with_reducible refine (push_n (ok := fun _ => True) 0 1 (chg sa) sa false 0 0 0 s0 live_n1 (Ft.below hm0 ?hq) rfl rfl rfl (by decide)).mono ?_); (case hq => with_reducible repeat (first | assumption | apply below_alloc | apply below_drew1 | exact Below.refl _ _)); rintro e x1 ⟨A1, d1, rfl, hp1, hb⟩; replace hp1 := Ft.all hp1; have hb1 := below_step (show Below w9.heap.size w9 _ from (by with_reducible repeat (first | assumption | apply below_alloc | apply below_drew1 | refine below_set ?_ (by first | exact hb2.size | exact hb1.size | exact Nat.le_refl _) | exact Below.refl _ _))) hb; (first | replace T5 := blk_below T5 hb | have T5 := blk_below (heap_alloc_new _ _) hb | have T5 := blk_below (new_drew _ _) hb | skip); (try rw [show w9.drew.heap.size = w9.heap.size from rfl] at T5); (try (have k0_ := (blk_cell T5 0).trans rfl; have z0_ := blk_frozen T5 0; have k1_ := (blk_cell T5 1).trans rfl; have z1_ := blk_frozen T5 1; have k2_ := (blk_cell T5 2).trans rfl; have z2_ := blk_frozen T5 2; have k3_ := (blk_cell T5 3).trans rfl; have z3_ := blk_frozen T5 3; have k4_ := (blk_cell T5 4).trans rfl; have z4_ := blk_frozen T5 4; have k5_ := (blk_cell T5 5).trans rfl; have z5_ := blk_frozen T5 5; have k6_ := (blk_cell T5 6).trans rfl; have z6_ := blk_frozen T5 6)); clear hb))
  all_goals (go_wp2_with fail; go_meet; with_reducible first | exact ⟨x2.heap.size, A2, d2, rfl, heap_alloc_new _ _, Ft.below hp2 (below_alloc (Below.refl _ _) _), below_alloc hb2 _, hb2.size⟩ | exact ⟨_, A2, d2, rfl, (set7 T5 hp2 hb2 (by first | exact hb1.size | exact Nat.le_refl _)).1, (set7 T5 hp2 hb2 (by first | exact hb1.size | exact Nat.le_refl _)).2.1, (set7 T5 hp2 hb2 (by first | exact hb1.size | exact Nat.le_refl _)).2.2, (by first | exact hb1.size | exact Nat.le_refl _)⟩)
 case rest =>
  obtain ⟨p10, A10, e10, rfl, T5, hn, hb, hlt⟩ := hcut
  skip
  have S := HS.out.newAt hb hlt T5
  replace ht := Ft.below ht hb
  replace hl := Ft.below hl hb
  replace hm := Ft.below hm hb
  replace fm := Ft.below fm hb
  clear SS HS hb hlt T5 hm0
  replace S : Kn ok w0 [(p10, .cells #[.int .i64 1, .slice A10 2 e10, .bool false, .int .i64 1, .int .i64 10, .bool false, .int .i64 10] TLk (0, 0)), (p8, .cells #[.int .i64 1, .slice A8 0 e8, .bool false, .int .i64 1, .int .i64 10, .bool false, .int .i64 10] TLk (0, 0)), (p6, .cells #[.int .i64 0, .slice A6 0 e6, .bool false, .int .i64 0, .int .i64 0, .bool false, .int .i64 0] TLk (0, 0)), (p4, .cells #[.int .i64 0, .slice A4 0 e4, .bool false, .int .i64 2, .int .i64 10, .bool true, .int .i64 10] TLk (0, 0)), (p3, .cells #[.string sa, .int .i64 4, .int .i64 0, .int .i64 0, .string s0] 72 (0, 0)), (p2, .cells #[.int .i64 4, .int .i64 0, .int .i64 0, .string s0] 32 (0, 0)), (p1, .cells #[.int .i64 2, .int .i64 2, .int .i64 1, .int .i64 5] TCf (0, 0))] nil tt [] wc := S
  have hz : (V kSe (.slice none 0 0) []).P wc (fun _ => True) := V_any (Kd.V_nil kSe 0 wc 0 _)
  have c_0 : wc.cell? ⟨p1, 0, none⟩ = some (.int .i64 2) := S.cell 6 0 rfl rfl
  have c_1 : wc.cell? ⟨p1, 1, none⟩ = some (.int .i64 2) := S.cell 6 1 rfl rfl
  have c_2 : wc.cell? ⟨p1, 2, none⟩ = some (.int .i64 1) := S.cell 6 2 rfl rfl
  have c_3 : wc.cell? ⟨p1, 3, none⟩ = some (.int .i64 5) := S.cell 6 3 rfl rfl
  have n_0 : wc.cell? ⟨p10, 0, none⟩ = some (.int .i64 1) := S.cell 0 0 rfl rfl
  have n_1 : wc.cell? ⟨p10, 1, none⟩ = some (.slice A10 2 e10) := S.cell 0 1 rfl rfl
  have n_2 : wc.cell? ⟨p10, 2, none⟩ = some (.bool false) := S.cell 0 2 rfl rfl
  have n_3 : wc.cell? ⟨p10, 3, none⟩ = some (.int .i64 1) := S.cell 0 3 rfl rfl
  have n_4 : wc.cell? ⟨p10, 4, none⟩ = some (.int .i64 10) := S.cell 0 4 rfl rfl
  have n_5 : wc.cell? ⟨p10, 5, none⟩ = some (.bool false) := S.cell 0 5 rfl rfl
  have n_6 : wc.cell? ⟨p10, 6, none⟩ = some (.int .i64 10) := S.cell 0 6 rfl rfl
  go_wp2_with fail
  refine (emit_kn (ok := fun _ => True) (by decide) (by decide) (by decide) (by decide) live_o hn hz).mono ?_
  rintro e w11 ⟨A11, e11, B11, d11, rfl, hV, hF, hb⟩
  replace S := S.below hb
  replace ht := Ft.below ht hb
  replace hl := Ft.below hl hb
  replace hm := Ft.below hm hb
  replace fm := Ft.below fm hb
  replace hn := Ft.below hn hb
  replace hz := Ft.below hz hb
  have ho := Ft.all hV
  clear hV
  have fo := Ft.all hF
  clear hF
  clear c_0 c_1 c_2 c_3 n_0 n_1 n_2 n_3 n_4 n_5 n_6 hb
  go_upto_region 9 with (fail)
  generalize hg : World.alloc _ _ = w12
  replace S := S.new hg
  have hbx : Below w11.heap.size w11 w12 := hg ▸ (by repeat (first | exact Below.refl _ _ | apply below_alloc))
  replace ht := Ft.below ht hbx
  replace hl := Ft.below hl hbx
  replace hm := Ft.below hm hbx
  replace fm := Ft.below fm hbx
  replace hn := Ft.below hn hbx
  replace hz := Ft.below hz hbx
  replace ho := Ft.below ho hbx
  replace fo := Ft.below fo hbx
  clear hbx
  clear hg
  generalize w11.heap.size = p11 at S ⊢
  replace S : Kn ok w0 [(p11, .cells #[.int .i64 2, .slice A11 1 e11, .bool false, .int .i64 0, .int .i64 10, .bool false, .int .i64 10] TLk (0, 0)), (p10, .cells #[.int .i64 1, .slice A10 2 e10, .bool false, .int .i64 1, .int .i64 10, .bool false, .int .i64 10] TLk (0, 0)), (p8, .cells #[.int .i64 1, .slice A8 0 e8, .bool false, .int .i64 1, .int .i64 10, .bool false, .int .i64 10] TLk (0, 0)), (p6, .cells #[.int .i64 0, .slice A6 0 e6, .bool false, .int .i64 0, .int .i64 0, .bool false, .int .i64 0] TLk (0, 0)), (p4, .cells #[.int .i64 0, .slice A4 0 e4, .bool false, .int .i64 2, .int .i64 10, .bool true, .int .i64 10] TLk (0, 0)), (p3, .cells #[.string sa, .int .i64 4, .int .i64 0, .int .i64 0, .string s0] 72 (0, 0)), (p2, .cells #[.int .i64 4, .int .i64 0, .int .i64 0, .string s0] 32 (0, 0)), (p1, .cells #[.int .i64 2, .int .i64 2, .int .i64 1, .int .i64 5] TCf (0, 0))] nil tt [] w12 := S
  have c_0 : w12.cell? ⟨p1, 0, none⟩ = some (.int .i64 2) := S.cell 7 0 rfl rfl
  have c_1 : w12.cell? ⟨p1, 1, none⟩ = some (.int .i64 2) := S.cell 7 1 rfl rfl
  have c_2 : w12.cell? ⟨p1, 2, none⟩ = some (.int .i64 1) := S.cell 7 2 rfl rfl
  have c_3 : w12.cell? ⟨p1, 3, none⟩ = some (.int .i64 5) := S.cell 7 3 rfl rfl
  have o_0 : w12.cell? ⟨p11, 0, none⟩ = some (.int .i64 2) := S.cell 0 0 rfl rfl
  have o_1 : w12.cell? ⟨p11, 1, none⟩ = some (.slice A11 1 e11) := S.cell 0 1 rfl rfl
  have o_2 : w12.cell? ⟨p11, 2, none⟩ = some (.bool false) := S.cell 0 2 rfl rfl
  have o_3 : w12.cell? ⟨p11, 3, none⟩ = some (.int .i64 0) := S.cell 0 3 rfl rfl
  have o_4 : w12.cell? ⟨p11, 4, none⟩ = some (.int .i64 10) := S.cell 0 4 rfl rfl
  have o_5 : w12.cell? ⟨p11, 5, none⟩ = some (.bool false) := S.cell 0 5 rfl rfl
  have o_6 : w12.cell? ⟨p11, 6, none⟩ = some (.int .i64 10) := S.cell 0 6 rfl rfl
  go_wp2_with fail
  refine (emit_kn (ok := fun _ => True) (by decide) (by decide) (by decide) (by decide) live_p ho hz).mono ?_
  rintro e w13 ⟨A13, e13, B13, d13, rfl, hV, hF, hb⟩
  replace S := S.below hb
  replace ht := Ft.below ht hb
  replace hl := Ft.below hl hb
  replace hm := Ft.below hm hb
  replace fm := Ft.below fm hb
  replace hn := Ft.below hn hb
  replace hz := Ft.below hz hb
  replace ho := Ft.below ho hb
  replace fo := Ft.below fo hb
  have hp := Ft.all hV
  clear hV
  have fp := Ft.all hF
  clear hF
  clear c_0 c_1 c_2 c_3 o_0 o_1 o_2 o_3 o_4 o_5 o_6 hb
  go_upto_region 10 with (fail)
  generalize hg : World.alloc _ _ = w14
  replace S := S.new hg
  have hbx : Below w13.heap.size w13 w14 := hg ▸ (by repeat (first | exact Below.refl _ _ | apply below_alloc))
  replace ht := Ft.below ht hbx
  replace hl := Ft.below hl hbx
  replace hm := Ft.below hm hbx
  replace fm := Ft.below fm hbx
  replace hn := Ft.below hn hbx
  replace hz := Ft.below hz hbx
  replace ho := Ft.below ho hbx
  replace fo := Ft.below fo hbx
  replace hp := Ft.below hp hbx
  replace fp := Ft.below fp hbx
  clear hbx
  clear hg
  generalize w13.heap.size = p13 at S ⊢
  replace S : Kn ok w0 [(p13, .cells #[.int .i64 2, .slice A13 1 e13, .bool false, .int .i64 0, .int .i64 10, .bool false, .int .i64 10] TLk (0, 0)), (p11, .cells #[.int .i64 2, .slice A11 1 e11, .bool false, .int .i64 0, .int .i64 10, .bool false, .int .i64 10] TLk (0, 0)), (p10, .cells #[.int .i64 1, .slice A10 2 e10, .bool false, .int .i64 1, .int .i64 10, .bool false, .int .i64 10] TLk (0, 0)), (p8, .cells #[.int .i64 1, .slice A8 0 e8, .bool false, .int .i64 1, .int .i64 10, .bool false, .int .i64 10] TLk (0, 0)), (p6, .cells #[.int .i64 0, .slice A6 0 e6, .bool false, .int .i64 0, .int .i64 0, .bool false, .int .i64 0] TLk (0, 0)), (p4, .cells #[.int .i64 0, .slice A4 0 e4, .bool false, .int .i64 2, .int .i64 10, .bool true, .int .i64 10] TLk (0, 0)), (p3, .cells #[.string sa, .int .i64 4, .int .i64 0, .int .i64 0, .string s0] 72 (0, 0)), (p2, .cells #[.int .i64 4, .int .i64 0, .int .i64 0, .string s0] 32 (0, 0)), (p1, .cells #[.int .i64 2, .int .i64 2, .int .i64 1, .int .i64 5] TCf (0, 0))] nil tt [] w14 := S
  have c_0 : w14.cell? ⟨p1, 0, none⟩ = some (.int .i64 2) := S.cell 8 0 rfl rfl
  have c_1 : w14.cell? ⟨p1, 1, none⟩ = some (.int .i64 2) := S.cell 8 1 rfl rfl
  have c_2 : w14.cell? ⟨p1, 2, none⟩ = some (.int .i64 1) := S.cell 8 2 rfl rfl
  have c_3 : w14.cell? ⟨p1, 3, none⟩ = some (.int .i64 5) := S.cell 8 3 rfl rfl
  have o_0 : w14.cell? ⟨p11, 0, none⟩ = some (.int .i64 2) := S.cell 1 0 rfl rfl
  have o_1 : w14.cell? ⟨p11, 1, none⟩ = some (.slice A11 1 e11) := S.cell 1 1 rfl rfl
  have o_2 : w14.cell? ⟨p11, 2, none⟩ = some (.bool false) := S.cell 1 2 rfl rfl
  have o_3 : w14.cell? ⟨p11, 3, none⟩ = some (.int .i64 0) := S.cell 1 3 rfl rfl
  have o_4 : w14.cell? ⟨p11, 4, none⟩ = some (.int .i64 10) := S.cell 1 4 rfl rfl
  have o_5 : w14.cell? ⟨p11, 5, none⟩ = some (.bool false) := S.cell 1 5 rfl rfl
  have o_6 : w14.cell? ⟨p11, 6, none⟩ = some (.int .i64 10) := S.cell 1 6 rfl rfl
  go_wp2_with fail
  refine (emit_kn (ok := fun _ => True) (by decide) (by decide) (by decide) (by decide) live_q ho hz).mono ?_
  rintro e w15 ⟨A15, e15, B15, d15, rfl, hV, hF, hb⟩
  replace S := S.below hb
  replace ht := Ft.below ht hb
  replace hl := Ft.below hl hb
  replace hm := Ft.below hm hb
  replace fm := Ft.below fm hb
  replace hn := Ft.below hn hb
  replace hz := Ft.below hz hb
  replace ho := Ft.below ho hb
  replace fo := Ft.below fo hb
  replace hp := Ft.below hp hb
  replace fp := Ft.below fp hb
  have hq := Ft.all hV
  clear hV
  have fq := Ft.all hF
  clear hF
  clear c_0 c_1 c_2 c_3 o_0 o_1 o_2 o_3 o_4 o_5 o_6 hb
  go_upto_region 11 with (fail)
  generalize hg : World.alloc _ _ = w16
  replace S := S.new hg
  have hbx : Below w15.heap.size w15 w16 := hg ▸ (by repeat (first | exact Below.refl _ _ | apply below_alloc))
  replace ht := Ft.below ht hbx
  replace hl := Ft.below hl hbx
  replace hm := Ft.below hm hbx
  replace fm := Ft.below fm hbx
  replace hn := Ft.below hn hbx
  replace hz := Ft.below hz hbx
  replace ho := Ft.below ho hbx
  replace fo := Ft.below fo hbx
  replace hp := Ft.below hp hbx
  replace fp := Ft.below fp hbx
  replace hq := Ft.below hq hbx
  replace fq := Ft.below fq hbx
  clear hbx
  clear hg
  generalize w15.heap.size = p15 at S ⊢
  replace S : Kn ok w0 [(p15, .cells #[.int .i64 4, .slice A15 0 e15, .bool false, .int .i64 0, .int .i64 16, .bool false, .int .i64 16] TLk (0, 0)), (p13, .cells #[.int .i64 2, .slice A13 1 e13, .bool false, .int .i64 0, .int .i64 10, .bool false, .int .i64 10] TLk (0, 0)), (p11, .cells #[.int .i64 2, .slice A11 1 e11, .bool false, .int .i64 0, .int .i64 10, .bool false, .int .i64 10] TLk (0, 0)), (p10, .cells #[.int .i64 1, .slice A10 2 e10, .bool false, .int .i64 1, .int .i64 10, .bool false, .int .i64 10] TLk (0, 0)), (p8, .cells #[.int .i64 1, .slice A8 0 e8, .bool false, .int .i64 1, .int .i64 10, .bool false, .int .i64 10] TLk (0, 0)), (p6, .cells #[.int .i64 0, .slice A6 0 e6, .bool false, .int .i64 0, .int .i64 0, .bool false, .int .i64 0] TLk (0, 0)), (p4, .cells #[.int .i64 0, .slice A4 0 e4, .bool false, .int .i64 2, .int .i64 10, .bool true, .int .i64 10] TLk (0, 0)), (p3, .cells #[.string sa, .int .i64 4, .int .i64 0, .int .i64 0, .string s0] 72 (0, 0)), (p2, .cells #[.int .i64 4, .int .i64 0, .int .i64 0, .string s0] 32 (0, 0)), (p1, .cells #[.int .i64 2, .int .i64 2, .int .i64 1, .int .i64 5] TCf (0, 0))] nil tt [] w16 := S
  have c_0 : w16.cell? ⟨p1, 0, none⟩ = some (.int .i64 2) := S.cell 9 0 rfl rfl
  have c_1 : w16.cell? ⟨p1, 1, none⟩ = some (.int .i64 2) := S.cell 9 1 rfl rfl
  have c_2 : w16.cell? ⟨p1, 2, none⟩ = some (.int .i64 1) := S.cell 9 2 rfl rfl
  have c_3 : w16.cell? ⟨p1, 3, none⟩ = some (.int .i64 5) := S.cell 9 3 rfl rfl
  have n_0 : w16.cell? ⟨p10, 0, none⟩ = some (.int .i64 1) := S.cell 3 0 rfl rfl
  have n_1 : w16.cell? ⟨p10, 1, none⟩ = some (.slice A10 2 e10) := S.cell 3 1 rfl rfl
  have n_2 : w16.cell? ⟨p10, 2, none⟩ = some (.bool false) := S.cell 3 2 rfl rfl
  have n_3 : w16.cell? ⟨p10, 3, none⟩ = some (.int .i64 1) := S.cell 3 3 rfl rfl
  have n_4 : w16.cell? ⟨p10, 4, none⟩ = some (.int .i64 10) := S.cell 3 4 rfl rfl
  have n_5 : w16.cell? ⟨p10, 5, none⟩ = some (.bool false) := S.cell 3 5 rfl rfl
  have n_6 : w16.cell? ⟨p10, 6, none⟩ = some (.int .i64 10) := S.cell 3 6 rfl rfl
  go_wp2_with fail
  refine (push_kn (ok := fun _ => True) (chg sc) (by decide) live_r hn).mono ?_
  rintro e w17 ⟨A17, e17, rfl, hV, hb⟩
  replace S := S.below hb
  replace ht := Ft.below ht hb
  replace hl := Ft.below hl hb
  replace hm := Ft.below hm hb
  replace fm := Ft.below fm hb
  replace hn := Ft.below hn hb
  replace hz := Ft.below hz hb
  replace ho := Ft.below ho hb
  replace fo := Ft.below fo hb
  replace hp := Ft.below hp hb
  replace fp := Ft.below fp hb
  replace hq := Ft.below hq hb
  replace fq := Ft.below fq hb
  have hr := Ft.all hV
  clear hV
  clear c_0 c_1 c_2 c_3 n_0 n_1 n_2 n_3 n_4 n_5 n_6 hb
  go_upto_region 12 with (fail)
  generalize hg : World.alloc _ _ = w18
  replace S := S.new hg
  have hbx : Below w17.heap.size w17 w18 := hg ▸ (by repeat (first | exact Below.refl _ _ | apply below_alloc))
  replace ht := Ft.below ht hbx
  replace hl := Ft.below hl hbx
  replace hm := Ft.below hm hbx
  replace fm := Ft.below fm hbx
  replace hn := Ft.below hn hbx
  replace hz := Ft.below hz hbx
  replace ho := Ft.below ho hbx
  replace fo := Ft.below fo hbx
  replace hp := Ft.below hp hbx
  replace fp := Ft.below fp hbx
  replace hq := Ft.below hq hbx
  replace fq := Ft.below fq hbx
  replace hr := Ft.below hr hbx
  clear hbx
  clear hg
  generalize w17.heap.size = p17 at S ⊢
  replace S : Kn ok w0 [(p17, .cells #[.int .i64 1, .slice A17 0 e17, .bool false, .int .i64 1, .int .i64 10, .bool true, .int .i64 10] TLk (0, 0)), (p15, .cells #[.int .i64 4, .slice A15 0 e15, .bool false, .int .i64 0, .int .i64 16, .bool false, .int .i64 16] TLk (0, 0)), (p13, .cells #[.int .i64 2, .slice A13 1 e13, .bool false, .int .i64 0, .int .i64 10, .bool false, .int .i64 10] TLk (0, 0)), (p11, .cells #[.int .i64 2, .slice A11 1 e11, .bool false, .int .i64 0, .int .i64 10, .bool false, .int .i64 10] TLk (0, 0)), (p10, .cells #[.int .i64 1, .slice A10 2 e10, .bool false, .int .i64 1, .int .i64 10, .bool false, .int .i64 10] TLk (0, 0)), (p8, .cells #[.int .i64 1, .slice A8 0 e8, .bool false, .int .i64 1, .int .i64 10, .bool false, .int .i64 10] TLk (0, 0)), (p6, .cells #[.int .i64 0, .slice A6 0 e6, .bool false, .int .i64 0, .int .i64 0, .bool false, .int .i64 0] TLk (0, 0)), (p4, .cells #[.int .i64 0, .slice A4 0 e4, .bool false, .int .i64 2, .int .i64 10, .bool true, .int .i64 10] TLk (0, 0)), (p3, .cells #[.string sa, .int .i64 4, .int .i64 0, .int .i64 0, .string s0] 72 (0, 0)), (p2, .cells #[.int .i64 4, .int .i64 0, .int .i64 0, .string s0] 32 (0, 0)), (p1, .cells #[.int .i64 2, .int .i64 2, .int .i64 1, .int .i64 5] TCf (0, 0))] nil tt [] w18 := S
  clear ht hl hm hn hr hz
  have c_0 : w18.cell? ⟨p1, 0, none⟩ = some (.int .i64 2) := S.cell 10 0 rfl rfl
  have c_1 : w18.cell? ⟨p1, 1, none⟩ = some (.int .i64 2) := S.cell 10 1 rfl rfl
  have c_2 : w18.cell? ⟨p1, 2, none⟩ = some (.int .i64 1) := S.cell 10 2 rfl rfl
  have c_3 : w18.cell? ⟨p1, 3, none⟩ = some (.int .i64 5) := S.cell 10 3 rfl rfl
  have l_5 : w18.cell? ⟨p4, 5, none⟩ = some (.bool true) := S.cell 7 5 rfl rfl
  have m_0 : w18.cell? ⟨p8, 0, none⟩ = some (.int .i64 1) := S.cell 5 0 rfl rfl
  have m_5 : w18.cell? ⟨p8, 5, none⟩ = some (.bool false) := S.cell 5 5 rfl rfl
  have o_0 : w18.cell? ⟨p11, 0, none⟩ = some (.int .i64 2) := S.cell 3 0 rfl rfl
  have o_1 : w18.cell? ⟨p11, 1, none⟩ = some (.slice A11 1 e11) := S.cell 3 1 rfl rfl
  have o_2 : w18.cell? ⟨p11, 2, none⟩ = some (.bool false) := S.cell 3 2 rfl rfl
  have o_3 : w18.cell? ⟨p11, 3, none⟩ = some (.int .i64 0) := S.cell 3 3 rfl rfl
  have o_4 : w18.cell? ⟨p11, 4, none⟩ = some (.int .i64 10) := S.cell 3 4 rfl rfl
  have o_5 : w18.cell? ⟨p11, 5, none⟩ = some (.bool false) := S.cell 3 5 rfl rfl
  have o_6 : w18.cell? ⟨p11, 6, none⟩ = some (.int .i64 10) := S.cell 3 6 rfl rfl
  have p_0 : w18.cell? ⟨p13, 0, none⟩ = some (.int .i64 2) := S.cell 2 0 rfl rfl
  have p_1 : w18.cell? ⟨p13, 1, none⟩ = some (.slice A13 1 e13) := S.cell 2 1 rfl rfl
  have p_2 : w18.cell? ⟨p13, 2, none⟩ = some (.bool false) := S.cell 2 2 rfl rfl
  have p_3 : w18.cell? ⟨p13, 3, none⟩ = some (.int .i64 0) := S.cell 2 3 rfl rfl
  have p_4 : w18.cell? ⟨p13, 4, none⟩ = some (.int .i64 10) := S.cell 2 4 rfl rfl
  have p_5 : w18.cell? ⟨p13, 5, none⟩ = some (.bool false) := S.cell 2 5 rfl rfl
  have p_6 : w18.cell? ⟨p13, 6, none⟩ = some (.int .i64 10) := S.cell 2 6 rfl rfl
  have q_0 : w18.cell? ⟨p15, 0, none⟩ = some (.int .i64 4) := S.cell 1 0 rfl rfl
  have q_1 : w18.cell? ⟨p15, 1, none⟩ = some (.slice A15 0 e15) := S.cell 1 1 rfl rfl
  have q_2 : w18.cell? ⟨p15, 2, none⟩ = some (.bool false) := S.cell 1 2 rfl rfl
  have q_3 : w18.cell? ⟨p15, 3, none⟩ = some (.int .i64 0) := S.cell 1 3 rfl rfl
  have q_4 : w18.cell? ⟨p15, 4, none⟩ = some (.int .i64 16) := S.cell 1 4 rfl rfl
  have q_5 : w18.cell? ⟨p15, 5, none⟩ = some (.bool false) := S.cell 1 5 rfl rfl
  have q_6 : w18.cell? ⟨p15, 6, none⟩ = some (.int .i64 16) := S.cell 1 6 rfl rfl
  have r_1 : w18.cell? ⟨p17, 1, none⟩ = some (.slice A17 0 e17) := S.cell 0 1 rfl rfl
  have r_5 : w18.cell? ⟨p17, 5, none⟩ = some (.bool true) := S.cell 0 5 rfl rfl
  obtain ⟨ax, Ax, cx, hex, x0, x1, x2, x3, x4, x5, x6, x7, x8, x9, hcx, hkx⟩ := at_T60 (Kd.V_reads' (e := 0) (base := 0) fm).2.2 ((0 : Nat) : Int) (by decide) (by decide)
  clear hcx hkx
  rw [Int.toNat_natCast] at x0 x1 x2 x3 x4 x5 x6 x7 x8 x9
  simp only [show ∀ l : List Fr, rd_T60 (fr1 :: l) ((0 : Nat) : Int) = fr1 from fun _ => rfl, show ∀ (a : Fr) (l : List Fr), rd_T60 (a :: fr1 :: l) ((1 : Nat) : Int) = fr1 from fun _ _ => rfl, Nat.zero_mul, Nat.one_mul, add0, add10] at x0 x1 x2 x3 x4 x5 x6 x7 x8 x9
  clear x1 x2 x3 x4 x5 x6 x7 x8
  subst hex
  obtain ⟨ay, Ay, cy, hey, y0, y1, y2, y3, y4, y5, y6, y7, y8, y9, hcy, hky⟩ := at_T60 (Kd.V_reads' (e := 0) (base := 0) fo).2.2 ((0 : Nat) : Int) (by decide) (by decide)
  clear hcy hky
  rw [Int.toNat_natCast] at y0 y1 y2 y3 y4 y5 y6 y7 y8 y9
  simp only [show ∀ l : List Fr, rd_T60 (fr2 :: l) ((0 : Nat) : Int) = fr2 from fun _ => rfl, show ∀ (a : Fr) (l : List Fr), rd_T60 (a :: fr2 :: l) ((1 : Nat) : Int) = fr2 from fun _ _ => rfl, Nat.zero_mul, Nat.one_mul, add0, add10] at y0 y1 y2 y3 y4 y5 y6 y7 y8 y9
  clear y2 y4 y5 y6 y7 y8 y9
  subst hey
  obtain ⟨az, Az, cz, hez, z0, z1, z2, z3, z4, z5, z6, z7, z8, z9, hcz, hkz⟩ := at_T60 (Kd.V_reads' (e := 0) (base := 0) fq).2.2 ((0 : Nat) : Int) (by decide) (by decide)
  clear hcz hkz
  rw [Int.toNat_natCast] at z0 z1 z2 z3 z4 z5 z6 z7 z8 z9
  simp only [show ∀ l : List Fr, rd_T60 (fr3 :: l) ((0 : Nat) : Int) = fr3 from fun _ => rfl, show ∀ (a : Fr) (l : List Fr), rd_T60 (a :: fr3 :: l) ((1 : Nat) : Int) = fr3 from fun _ _ => rfl, Nat.zero_mul, Nat.one_mul, add0, add10] at z0 z1 z2 z3 z4 z5 z6 z7 z8 z9
  clear z0 z1 z2 z4 z5 z6 z7 z8 z9
  obtain ⟨av, Av, cv, hev, v0, v1, v2, v3, v4, v5, v6, v7, v8, v9, hcv, hkv⟩ := at_T60 (Kd.V_reads' (e := 0) (base := 0) fq).2.2 ((1 : Nat) : Int) (by decide) (by decide)
  clear hcv hkv
  rw [Int.toNat_natCast] at v0 v1 v2 v3 v4 v5 v6 v7 v8 v9
  simp only [show ∀ l : List Fr, rd_T60 (fr4 :: l) ((0 : Nat) : Int) = fr4 from fun _ => rfl, show ∀ (a : Fr) (l : List Fr), rd_T60 (a :: fr4 :: l) ((1 : Nat) : Int) = fr4 from fun _ _ => rfl, Nat.zero_mul, Nat.one_mul, add0, add10] at v0 v1 v2 v3 v4 v5 v6 v7 v8 v9
  clear v2 v3 v4 v5 v6 v7 v8 v9
  obtain rfl : az = av := Option.some.inj (hez.symm.trans hev)
  subst hez
  clear hev
  clear fm fo fp fq
  have hzc : ∀ w : World, (V kCh (.slice none 0 0) []).P w (fun _ => True) := fun w => V_any (Kd.V_nil kCh 0 w 0 _)
  go_wp2_with fail
  refine (rollcallref18_Same.kn 1100 (same18 1100 2 [chg sb] false 0 10 false 10 (by decide) (by decide)) ho hp).mono ?_
  rintro e w19 ⟨rfl, hb⟩
  replace c_0 := pw_cell_below hb c_0
  replace c_1 := pw_cell_below hb c_1
  replace c_2 := pw_cell_below hb c_2
  replace c_3 := pw_cell_below hb c_3
  replace l_5 := pw_cell_below hb l_5
  replace m_0 := pw_cell_below hb m_0
  replace m_5 := pw_cell_below hb m_5
  replace o_0 := pw_cell_below hb o_0
  replace o_1 := pw_cell_below hb o_1
  replace o_2 := pw_cell_below hb o_2
  replace o_3 := pw_cell_below hb o_3
  replace o_4 := pw_cell_below hb o_4
  replace o_5 := pw_cell_below hb o_5
  replace o_6 := pw_cell_below hb o_6
  replace p_0 := pw_cell_below hb p_0
  replace p_1 := pw_cell_below hb p_1
  replace p_2 := pw_cell_below hb p_2
  replace p_3 := pw_cell_below hb p_3
  replace p_4 := pw_cell_below hb p_4
  replace p_5 := pw_cell_below hb p_5
  replace p_6 := pw_cell_below hb p_6
  replace q_0 := pw_cell_below hb q_0
  replace q_1 := pw_cell_below hb q_1
  replace q_2 := pw_cell_below hb q_2
  replace q_3 := pw_cell_below hb q_3
  replace q_4 := pw_cell_below hb q_4
  replace q_5 := pw_cell_below hb q_5
  replace q_6 := pw_cell_below hb q_6
  replace r_1 := pw_cell_below hb r_1
  replace r_5 := pw_cell_below hb r_5
  replace z3 := pw_cell_below hb z3
  replace v0 := pw_cell_below hb v0
  replace v1 := pw_cell_below hb v1
  replace ho := Ft.below ho hb
  replace hp := Ft.below hp hb
  replace hq := Ft.below hq hb
  replace S := S.below hb
  clear hb
  go_wp2_with fail
  refine (link_Quiet.kn (show link_Quiet.f 4 [] false 0 16 false 16 = some true from rfl) hq).mono ?_
  rintro e w20 ⟨rfl, hb⟩
  replace c_0 := pw_cell_below hb c_0
  replace c_1 := pw_cell_below hb c_1
  replace c_2 := pw_cell_below hb c_2
  replace c_3 := pw_cell_below hb c_3
  replace l_5 := pw_cell_below hb l_5
  replace m_0 := pw_cell_below hb m_0
  replace m_5 := pw_cell_below hb m_5
  replace o_0 := pw_cell_below hb o_0
  replace o_1 := pw_cell_below hb o_1
  replace o_2 := pw_cell_below hb o_2
  replace o_3 := pw_cell_below hb o_3
  replace o_4 := pw_cell_below hb o_4
  replace o_5 := pw_cell_below hb o_5
  replace o_6 := pw_cell_below hb o_6
  replace p_0 := pw_cell_below hb p_0
  replace p_1 := pw_cell_below hb p_1
  replace p_2 := pw_cell_below hb p_2
  replace p_3 := pw_cell_below hb p_3
  replace p_4 := pw_cell_below hb p_4
  replace p_5 := pw_cell_below hb p_5
  replace p_6 := pw_cell_below hb p_6
  replace q_0 := pw_cell_below hb q_0
  replace q_1 := pw_cell_below hb q_1
  replace q_2 := pw_cell_below hb q_2
  replace q_3 := pw_cell_below hb q_3
  replace q_4 := pw_cell_below hb q_4
  replace q_5 := pw_cell_below hb q_5
  replace q_6 := pw_cell_below hb q_6
  replace r_1 := pw_cell_below hb r_1
  replace r_5 := pw_cell_below hb r_5
  replace z3 := pw_cell_below hb z3
  replace v0 := pw_cell_below hb v0
  replace v1 := pw_cell_below hb v1
  replace ho := Ft.below ho hb
  replace hp := Ft.below hp hb
  replace hq := Ft.below hq hb
  replace S := S.below hb
  clear hb
  go_wp2_with fail
  refine (link_Quiet.kn (show link_Quiet.f 2 [chg sb] false 0 10 false 10 = some false from rfl) ho).mono ?_
  rintro e w21 ⟨rfl, hb⟩
  replace c_0 := pw_cell_below hb c_0
  replace c_1 := pw_cell_below hb c_1
  replace c_2 := pw_cell_below hb c_2
  replace c_3 := pw_cell_below hb c_3
  replace l_5 := pw_cell_below hb l_5
  replace m_0 := pw_cell_below hb m_0
  replace m_5 := pw_cell_below hb m_5
  replace o_0 := pw_cell_below hb o_0
  replace o_1 := pw_cell_below hb o_1
  replace o_2 := pw_cell_below hb o_2
  replace o_3 := pw_cell_below hb o_3
  replace o_4 := pw_cell_below hb o_4
  replace o_5 := pw_cell_below hb o_5
  replace o_6 := pw_cell_below hb o_6
  replace p_0 := pw_cell_below hb p_0
  replace p_1 := pw_cell_below hb p_1
  replace p_2 := pw_cell_below hb p_2
  replace p_3 := pw_cell_below hb p_3
  replace p_4 := pw_cell_below hb p_4
  replace p_5 := pw_cell_below hb p_5
  replace p_6 := pw_cell_below hb p_6
  replace q_0 := pw_cell_below hb q_0
  replace q_1 := pw_cell_below hb q_1
  replace q_2 := pw_cell_below hb q_2
  replace q_3 := pw_cell_below hb q_3
  replace q_4 := pw_cell_below hb q_4
  replace q_5 := pw_cell_below hb q_5
  replace q_6 := pw_cell_below hb q_6
  replace r_1 := pw_cell_below hb r_1
  replace r_5 := pw_cell_below hb r_5
  replace z3 := pw_cell_below hb z3
  replace v0 := pw_cell_below hb v0
  replace v1 := pw_cell_below hb v1
  replace ho := Ft.below ho hb
  replace hp := Ft.below hp hb
  replace hq := Ft.below hq hb
  replace S := S.below hb
  clear hb
  go_wp2_with fail
  refine (link_May.kn 200 live_x hq).mono ?_
  rintro e w22 ⟨rfl, hb⟩
  replace c_0 := pw_cell_below hb c_0
  replace c_1 := pw_cell_below hb c_1
  replace c_2 := pw_cell_below hb c_2
  replace c_3 := pw_cell_below hb c_3
  replace l_5 := pw_cell_below hb l_5
  replace m_0 := pw_cell_below hb m_0
  replace m_5 := pw_cell_below hb m_5
  replace o_0 := pw_cell_below hb o_0
  replace o_1 := pw_cell_below hb o_1
  replace o_2 := pw_cell_below hb o_2
  replace o_3 := pw_cell_below hb o_3
  replace o_4 := pw_cell_below hb o_4
  replace o_5 := pw_cell_below hb o_5
  replace o_6 := pw_cell_below hb o_6
  replace p_0 := pw_cell_below hb p_0
  replace p_1 := pw_cell_below hb p_1
  replace p_2 := pw_cell_below hb p_2
  replace p_3 := pw_cell_below hb p_3
  replace p_4 := pw_cell_below hb p_4
  replace p_5 := pw_cell_below hb p_5
  replace p_6 := pw_cell_below hb p_6
  replace q_0 := pw_cell_below hb q_0
  replace q_1 := pw_cell_below hb q_1
  replace q_2 := pw_cell_below hb q_2
  replace q_3 := pw_cell_below hb q_3
  replace q_4 := pw_cell_below hb q_4
  replace q_5 := pw_cell_below hb q_5
  replace q_6 := pw_cell_below hb q_6
  replace r_1 := pw_cell_below hb r_1
  replace r_5 := pw_cell_below hb r_5
  replace z3 := pw_cell_below hb z3
  replace v0 := pw_cell_below hb v0
  replace v1 := pw_cell_below hb v1
  replace ho := Ft.below ho hb
  replace hp := Ft.below hp hb
  replace hq := Ft.below hq hb
  replace S := S.below hb
  clear hb
  go_wp2_with fail
  refine (link_May.kn 200 live_y (hzc _)).mono ?_
  rintro e w23 ⟨rfl, hb⟩
  replace c_0 := pw_cell_below hb c_0
  replace c_1 := pw_cell_below hb c_1
  replace c_2 := pw_cell_below hb c_2
  replace c_3 := pw_cell_below hb c_3
  replace l_5 := pw_cell_below hb l_5
  replace m_0 := pw_cell_below hb m_0
  replace m_5 := pw_cell_below hb m_5
  replace o_0 := pw_cell_below hb o_0
  replace o_1 := pw_cell_below hb o_1
  replace o_2 := pw_cell_below hb o_2
  replace o_3 := pw_cell_below hb o_3
  replace o_4 := pw_cell_below hb o_4
  replace o_5 := pw_cell_below hb o_5
  replace o_6 := pw_cell_below hb o_6
  replace p_0 := pw_cell_below hb p_0
  replace p_1 := pw_cell_below hb p_1
  replace p_2 := pw_cell_below hb p_2
  replace p_3 := pw_cell_below hb p_3
  replace p_4 := pw_cell_below hb p_4
  replace p_5 := pw_cell_below hb p_5
  replace p_6 := pw_cell_below hb p_6
  replace q_0 := pw_cell_below hb q_0
  replace q_1 := pw_cell_below hb q_1
  replace q_2 := pw_cell_below hb q_2
  replace q_3 := pw_cell_below hb q_3
  replace q_4 := pw_cell_below hb q_4
  replace q_5 := pw_cell_below hb q_5
  replace q_6 := pw_cell_below hb q_6
  replace r_1 := pw_cell_below hb r_1
  replace r_5 := pw_cell_below hb r_5
  replace z3 := pw_cell_below hb z3
  replace v0 := pw_cell_below hb v0
  replace v1 := pw_cell_below hb v1
  replace ho := Ft.below ho hb
  replace hp := Ft.below hp hb
  replace hq := Ft.below hq hb
  replace S := S.below hb
  clear hb
  go_wp2
  go_ret
  exact ⟨rfl, S.bel⟩
theorem live_walk (w : World) : Calls Try.prog 11 #[] w fun e w' => e = .returned (.bool true) ∧ Below w.heap.size w w' := live_go (fun _ => True) w w (Kn.start _ w)
end Go.Proofs.Ytmigglldahkngaa.XTell
end

section
/- What a link is behind what it told, in plain lists: it may be one, and has nothing to tell at once again. -/
namespace Go.Proofs.Ytmigglldahkngaa.XTell
open Go.RowKit Go.Proofs.Ytmigglldahkngaa.PA Go.Proofs.YtmigglldahkngaaW.PrintWords Go.Proofs.YtmigglldahkngaaW.PrintLast Go.Proofs.Ytmigglldahkngaa.XGen
open Go.Proofs.Ytmigglldahkngaa.XV17 (mayT mayK mayQ mayK_iff mayT_iff oneB Apart OneP LV refMay_b may_b rounds emit_all next_less)
open Go.Proofs.Ytmigglldahkngaa.XPace (TK Fits lvl tk lvl_le)
open Go.Proofs.Ytmigglldahkngaa.XSum (Se)
set_option linter.unusedVariables false
set_option linter.unusedSimpArgs false
theorem next_sn {c3 now : Int} {t : List Se} {st : St} {f : Fr} {q' : List Ch} {sn' : Bool} {dg' : Int} (hx : nextP c3 now t st = some (f, q', sn', dg')) : sn' = false ∧ (q' = st.q ∨ ∃ x, st.q = x :: q') := by
 unfold nextP at hx
 split at hx
 ·simp only [Option.some.injEq, Prod.mk.injEq] at hx
  obtain ⟨_, rfl, rfl, _⟩ := hx
  exact ⟨rfl, .inl rfl⟩
 ·split at hx
  ·rename_i e
   simp only [Option.some.injEq, Prod.mk.injEq] at hx
   obtain ⟨_, rfl, rfl, _⟩ := hx
   exact ⟨rfl, .inr ⟨_, e⟩⟩
  ·rename_i e
   split at hx
   ·cases hx
   ·simp only [Option.some.injEq, Prod.mk.injEq] at hx
    obtain ⟨_, rfl, rfl, _⟩ := hx
    exact ⟨rfl, .inl e.symm⟩
end Go.Proofs.Ytmigglldahkngaa.XTell
end

section
/- The frames that a link tells, in plain lists: what each is, their numbers, and how many there are. -/
namespace Go.Proofs.Ytmigglldahkngaa.XTell
open Go.RowKit Go.Proofs.Ytmigglldahkngaa.PA Go.Proofs.YtmigglldahkngaaW.PrintWords Go.Proofs.YtmigglldahkngaaW.PrintLast Go.Proofs.Ytmigglldahkngaa.XGen
open Go.Proofs.Ytmigglldahkngaa.XV17 (mayT mayK mayQ mayK_iff oneB OneP LV)
open Go.Proofs.Ytmigglldahkngaa.XPace (TK Fits lvl tk lvl_le)
open Go.Proofs.Ytmigglldahkngaa.XSum (Se sumB)
set_option linter.unusedVariables false
set_option linter.unusedSimpArgs false
abbrev snapF (s : Int) (t : List Se) : Fr := ⟨3, s, false, ⟨#[]⟩, ⟨0, 0, 0, ⟨#[]⟩⟩, 0, t⟩
abbrev deltaF (s : Int) (x : Ch) : Fr := ⟨1, s, x.f1, x.f0, ⟨x.f2.f0, x.f2.f1, x.f2.f2, x.f2.f3⟩, 0, []⟩
abbrev digF (s : Int) (t : List Se) : Fr := ⟨2, s, false, ⟨#[]⟩, ⟨0, 0, 0, ⟨#[]⟩⟩, sumB t, []⟩
end Go.Proofs.Ytmigglldahkngaa.XTell
end

section
/- law18's LinkTold in plain lists: what was told, with what waits over it, is the view. -/
namespace Go.Proofs.Ytmigglldahkngaa.XTell
open Go.RowKit Go.Proofs.Ytmigglldahkngaa.PA Go.Proofs.YtmigglldahkngaaW.PrintWords Go.Proofs.YtmigglldahkngaaW.PrintLast Go.Proofs.Ytmigglldahkngaa.XGen
open Go.Proofs.Ytmigglldahkngaa.XV17 (mayT mayK mayQ mayK_iff oneB overQ overQ_cons setC setC_len)
open Go.Proofs.Ytmigglldahkngaa.XPace (TK)
open Go.Proofs.Ytmigglldahkngaa.XSum (Se sumB)
set_option linter.unusedVariables false
set_option linter.unusedSimpArgs false
/-- The change that a frame tells. -/
abbrev chgF (f : Fr) : Ch := ⟨f.f3, f.f2, ⟨f.f4.f0, f.f4.f1, f.f4.f2, f.f4.f3⟩⟩
/-- What whoever takes a frame has then. -/
def takeF (has : List Se) (f : Fr) : List Se := if f.f0 = 3 then f.f6 else if f.f0 = 1 then setC has (chgF f) else has
def takeAll (has : List Se) (fs : List Fr) (i : Nat) : List Se := (fs.take i).foldl takeF has
theorem takeAll_zero (has : List Se) (fs : List Fr) : takeAll has fs 0 = has := rfl
theorem takeAll_succ (has : List Se) (fs : List Fr) (i : Nat) (h : i < fs.length) : takeAll has fs (i + 1) = takeF (takeAll has fs i) fs[i] := by
 unfold takeAll
 rw [List.take_succ_eq_append_getElem h, List.foldl_append]
 rfl
theorem takeF_len (has : List Se) (f : Fr) (m : Nat) (h : has.length ≤ m) (h6 : f.f6.length ≤ m) : (takeF has f).length ≤ m + 1 := by
 unfold takeF
 split
 ·omega
 ·split
  ·exact Nat.le_trans (setC_len _ _) (by omega)
  ·omega
theorem takeAll_len (has : List Se) (fs : List Fr) (m : Nat) (h : has.length ≤ m) (h6 : ∀ f ∈ fs, f.f6.length ≤ m) : ∀ i, i ≤ fs.length → (takeAll has fs i).length ≤ m + i := by
 intro i
 induction i with
 | zero => intro _; exact h
 | succ i ih =>
  intro hi
  rw [takeAll_succ has fs i (by omega)]
  have := takeF_len (takeAll has fs i) fs[i] (m + i) (ih (by omega)) (by have := h6 fs[i] (List.getElem_mem _); omega)
  omega
theorem next_told {c3 now : Int} {t : List Se} {st : St} {f : Fr} {q' : List Ch} {sn' : Bool} {dg' : Int} (hs : st.sn = true → st.q = []) (hx : nextP c3 now t st = some (f, q', sn', dg')) (has : List Se) (ho : overQ has st.q = t) :
  overQ (takeF has f) q' = t ∧ (f.f0 = 2 → has = t) ∧ (f.f0 = 3 ∧ f.f6 = t ∨ f.f0 = 1 ∧ f.f6 = [] ∨ f.f0 = 2 ∧ f.f6 = [] ∧ f.f5 = sumB t) := by
 unfold nextP at hx
 split at hx
 ·rename_i e
  simp only [Option.some.injEq, Prod.mk.injEq] at hx
  obtain ⟨rfl, rfl, _, _⟩ := hx
  refine ⟨?_, fun h => absurd h (by simp), .inl ⟨rfl, rfl⟩⟩
  rw [hs e]
  rfl
 ·split at hx
  ·rename_i e
   simp only [Option.some.injEq, Prod.mk.injEq] at hx
   obtain ⟨rfl, rfl, _, _⟩ := hx
   refine ⟨?_, fun h => absurd h (by simp), .inr (.inl ⟨rfl, rfl⟩)⟩
   rw [e, overQ_cons] at ho
   exact ho
  ·rename_i e
   split at hx
   ·cases hx
   ·simp only [Option.some.injEq, Prod.mk.injEq] at hx
    obtain ⟨rfl, rfl, _, _⟩ := hx
    rw [e] at ho
    exact ⟨ho, fun _ => ho, .inr (.inr ⟨rfl, rfl, rfl⟩)⟩
theorem emit_told {c0 c1 c2 c3 now : Int} {t : List Se} : ∀ (k : Nat) (st R : St), (st.sn = true → st.q = []) → emitP c0 c1 c2 c3 now t k st = some R → ∀ has, overQ has st.q = t →
  ∃ gs, R.fs = st.fs ++ gs ∧ overQ (takeAll has gs gs.length) R.q = t ∧ ∀ (i : Nat) (h : i < gs.length), (gs[i].f0 = 2 → takeAll has gs i = t) ∧ (gs[i].f0 = 3 ∧ gs[i].f6 = t ∨ gs[i].f0 = 1 ∧ gs[i].f6 = [] ∨ gs[i].f0 = 2 ∧ gs[i].f6 = [] ∧ gs[i].f5 = sumB t) := by
 intro k
 induction k with
 | zero => intro st R _ h; simp [emitP] at h
 | succ k ih =>
  intro st R hs h has ho
  have hno : ∀ R', st = R' → ∃ gs, R'.fs = st.fs ++ gs ∧ overQ (takeAll has gs gs.length) R'.q = t ∧ ∀ (i : Nat) (h : i < gs.length), (gs[i].f0 = 2 → takeAll has gs i = t) ∧ (gs[i].f0 = 3 ∧ gs[i].f6 = t ∨ gs[i].f0 = 1 ∧ gs[i].f6 = [] ∨ gs[i].f0 = 2 ∧ gs[i].f6 = [] ∧ gs[i].f5 = sumB t) :=
   fun R' e => ⟨[], by rw [← e]; simp, by rw [← e]; exact ho, fun i h => by cases h⟩
  rw [emitP] at h
  by_cases h1 : st.s < 1099511627776
  rotate_left
  ·rw [if_neg h1] at h
   exact hno R (Option.some.inj h)
  rw [if_pos h1] at h
  by_cases h2 : (TK c0 c1 c2 c3 st.tok st.at_ now).2.2 = true
  rotate_left
  ·rw [if_neg h2] at h
   exact hno R (Option.some.inj h)
  rw [if_pos h2] at h
  rcases hx : nextP c3 now t st with _ | ⟨f, q', sn', dg'⟩
  ·rw [hx] at h
   exact hno R (Option.some.inj h)
  ·rw [hx] at h
   obtain ⟨n1, n2, n3⟩ := next_told hs hx has ho
   have hsn := (next_sn hx).1
   obtain ⟨gs, e1, e2, e3⟩ := ih _ R (fun e => by rw [hsn] at e; cases e) h (takeF has f) n1
   refine ⟨f :: gs, by rw [e1]; simp, ?_, fun i hi => ?_⟩
   ·exact e2
   ·cases i with
    | zero => exact ⟨fun h0 => n2 h0, n3⟩
    | succ i =>
     obtain ⟨a1, a2⟩ := e3 i (by simpa using hi)
     exact ⟨fun h0 => a1 h0, a2⟩
end Go.Proofs.Ytmigglldahkngaa.XTell
end

section
/- What came in and reads as data is of its kind: a law's arguments of whatever type (numbers, bools, texts, slices, structs, arrays of these, one in the other), opened by their kinds. -/

namespace Go.Proofs.Ytmigglldahkngaa.XOpen
open Go.RowKit Go.ChangeShapes Go.WideShapes Go.Deep Go.Proofs.YtmigglldahkngaaW.PrintWords Go.Proofs.YtmigglldahkngaaW.PrintLast Go.Proofs.YtmigglldahkngaaW.PrintMore
set_option linter.unusedVariables false
set_option linter.unusedSimpArgs false

/-- Whatever reads as data at type t is of kind d, and within its bounds. -/
def Opens (P : Program) (t : TypeId) {α : Type} (d : Kd α) (Ok : α → Prop) : Prop :=
 ∀ {H : Type} (enc : TypeId × Value → H) (w : World) (base : Nat) (spare : Nat → Bool) (held : Bool) (fuel : Nat) (cs : List Value) (x : DataW H × List MemPlace),
  DataW.trod enc P w base spare held fuel t cs = some x → ∃ a, d.K w a cs ∧ Ok a
/-- The same of a struct's fields (an array's elements), one behind the other. -/
def OpensL (P : Program) (ts : List TypeId) {α : Type} (d : Kd α) (Ok : α → Prop) : Prop :=
 ∀ {H : Type} (enc : TypeId × Value → H) (w : World) (base : Nat) (spare : Nat → Bool) (held : Bool) (fuel : Nat) (css : List (List Value)),
  css.length = ts.length → (∀ (j : Nat) (t : TypeId) (cs : List Value), ts[j]? = some t → css[j]? = some cs → ∃ x : DataW H × List MemPlace, DataW.trod enc P w base spare held fuel t cs = some x) → ∃ a, d.K w a css.flatten ∧ Ok a
section
variable {P : Program} {t e : TypeId}
theorem Opens.int {k : IntKind} (ht : P.underlying t = some (.int k)) : Opens P t (Kd.int k) (fun n => (Lit.int k n).wf = true) := by
 intro H enc w base spare held fuel cs x h
 obtain ⟨n, rfl, _, hw⟩ := DataW.trod_int ht h
 exact ⟨n, rfl, hw⟩
theorem Opens.bool (ht : P.underlying t = some .bool) : Opens P t Kd.bool (fun _ => True) := by
 intro H enc w base spare held fuel cs x h
 obtain ⟨n, rfl, _⟩ := DataW.trod_bool ht h
 exact ⟨n, rfl, trivial⟩
theorem Opens.string (ht : P.underlying t = some .string) : Opens P t Kd.string (fun s => s.size ≤ maxLen) := by
 intro H enc w base spare held fuel cs x h
 obtain ⟨s, rfl, _, hw⟩ := DataW.trod_string ht h
 exact ⟨s, rfl, hw⟩
theorem Opens.slice {α : Type} {d : Kd α} {Ok : α → Prop} (ht : P.underlying t = some (.slice e)) (hc : P.cellsOf e = d.sz) (z : α) (hd : Opens P e d Ok) : Opens P t (Kd.slice e d) (fun l => l.length ≤ maxLen ∧ ∀ a ∈ l, Ok a) := by
 intro H enc w base spare held fuel cs x h
 rcases open_slice ht h with ⟨rfl, _⟩ | ⟨a, len, cap, m, n, D, Pl, rfl, hb, hl, hm, hmm, _, hx⟩
 ·exact ⟨[], ⟨none, 0, rfl, Nat.le_refl _, ⟨rfl, Nat.zero_le _, fun h => absurd h (Nat.lt_irrefl _)⟩⟩, Nat.zero_le _, fun a ha => by cases ha⟩
 ·have hlm : len ≤ m := by rw [hmm]; split <;> omega
  have : Inhabited α := ⟨z⟩
  obtain ⟨f, hf⟩ := choose_lt (α := α) (n := len) (p := fun i a' => ∃ cs', w.cells? base (a.add (i * d.sz)) d.sz = some cs' ∧ d.K w a' cs' ∧ Ok a') (fun i hi => by
   obtain ⟨cs', h1, h2⟩ := hx i (by omega)
   obtain ⟨a', h3, h4⟩ := hd enc w base spare held n cs' _ h2
   rw [hc] at h1
   exact ⟨a', cs', h1, h3, h4⟩)
  refine ⟨(List.range len).map f, ⟨some a, cap, by simp, by simpa using hl, ?_⟩, by simp; omega, ?_⟩
  ·refine ⟨by simp, by simp; unfold maxLen at hm; omega, fun _ => ⟨a, rfl, fun j p hj => ?_⟩⟩
   have hjl : j < len := by
    have := (List.getElem?_eq_some_iff.1 hj).1
    simpa using this
   have hp : f j = p := by simpa [List.getElem?_map, hjl] using hj
   subst hp
   obtain ⟨cs', h1, h2, _⟩ := hf j hjl
   obtain ⟨_, h3, h4⟩ := World.cells?_some h1
   refine ⟨cs', h3, h2, fun i u hi => ?_⟩
   have hil : i < d.sz := by rw [← h3]; exact (List.getElem?_eq_some_iff.1 hi).1
   rw [← Go.Deep.add_add, h4 i hil, hi]
  ·intro b hb'
   obtain ⟨j, hj, rfl⟩ := List.mem_map.1 hb'
   obtain ⟨_, _, _, h⟩ := hf j (by simpa using hj)
   exact h
theorem OpensL.one {α : Type} {d : Kd α} {Ok : α → Prop} (h : Opens P t d Ok) : OpensL P [t] d Ok := by
 intro H enc w base spare held fuel css hl hx
 match css, hl with
 | [cs], _ =>
  obtain ⟨x, h1⟩ := hx 0 t cs rfl rfl
  obtain ⟨a, h2⟩ := h enc w base spare held fuel cs x h1
  exact ⟨a, by simpa using h2⟩
theorem OpensL.cons {ts : List TypeId} {α β : Type} {d : Kd α} {Ok : α → Prop} {d2 : Kd β} {Ok2 : β → Prop} (h : Opens P t d Ok) (h2 : OpensL P ts d2 Ok2) : OpensL P (t :: ts) (Kd.pair d d2) (fun x => Ok x.1 ∧ Ok2 x.2) := by
 intro H enc w base spare held fuel css hl hx
 match css, hl with
 | cs :: css, hl =>
  obtain ⟨x, h1⟩ := hx 0 t cs rfl rfl
  obtain ⟨a, h3, h4⟩ := h enc w base spare held fuel cs x h1
  obtain ⟨b, h5, h6⟩ := h2 enc w base spare held fuel css (by simpa using hl) (fun j t' cs' hj hj' => hx (j + 1) t' cs' (by simpa using hj) (by simpa using hj'))
  exact ⟨(a, b), ⟨cs, css.flatten, rfl, h3, h5⟩, h4, h6⟩
theorem Opens.iso {α β : Type} {d : Kd α} {Ok : α → Prop} (h : Opens P t d Ok) (f : β → α) (g : α → β) (hfg : ∀ a, f (g a) = a) : Opens P t (Kd.iso d f) (fun b => Ok (f b)) := by
 intro H enc w base spare held fuel cs x hx
 obtain ⟨a, h1, h2⟩ := h enc w base spare held fuel cs x hx
 exact ⟨g a, by show d.K w (f (g a)) cs; rw [hfg]; exact h1, by show Ok (f (g a)); rw [hfg]; exact h2⟩
/-- Cells, cut at the fields. -/
def cuts (cs : List Value) : List Nat → List (List Value)
 | [] => []
 | n :: ns => cs.take n :: cuts (cs.drop n) ns
theorem cuts_len : ∀ (cs : List Value) (ns : List Nat), (cuts cs ns).length = ns.length
 | _, [] => rfl
 | cs, n :: ns => by simp [cuts, cuts_len]
theorem cuts_flat : ∀ (cs : List Value) (ns : List Nat), cs.length = ns.sum → (cuts cs ns).flatten = cs
 | cs, [], h => by
  have : cs = [] := List.length_eq_zero_iff.1 (by simpa using h)
  simp [cuts, this]
 | cs, n :: ns, h => by
  simp only [List.sum_cons] at h
  simp only [cuts, List.flatten_cons]
  rw [cuts_flat (cs.drop n) ns (by rw [List.length_drop]; omega), List.take_append_drop]
theorem cuts_get : ∀ (cs : List Value) (ns : List Nat) (j : Nat) (n : Nat), ns[j]? = some n → (cuts cs ns)[j]? = some ((cs.drop (ns.take j).sum).take n)
 | _, [], _, _, h => by simp at h
 | cs, m :: ns, 0, n, h => by
  have : m = n := by simpa using h
  subst this
  simp [cuts]
 | cs, m :: ns, j + 1, n, h => by
  have := cuts_get (cs.drop m) ns j n (by simpa using h)
  simp only [cuts, List.getElem?_cons_succ, this, List.take_succ_cons, List.sum_cons, List.drop_drop]
theorem Opens.struct {α : Type} {d : Kd α} {Ok : α → Prop} {fs : Array Field} (ts : List TypeId) (ns : List Nat) (ht : P.underlying t = some (.struct fs)) (hts : fs.toList.map (·.type) = ts) (hns : ts.map P.cellsOf = ns) (hof : fs.toList.map (·.offset) = (List.range ns.length).map fun j => (ns.take j).sum) (hC : P.cellsOf t = ns.sum) (h : OpensL P ts d Ok) : Opens P t d Ok := by
 intro H enc w base spare held fuel cs x hx
 obtain ⟨xs, n, _, _, hl, hxs, hf⟩ := DataW.trod_struct ht hx
 have hlen : ts.length = fs.size := by rw [← hts]; simp
 have hlen2 : ns.length = ts.length := by rw [← hns]; simp
 obtain ⟨a, h1, h2⟩ := h enc w base spare held n (cuts cs ns) (by rw [cuts_len, hlen2]) (fun j t' cs' hj hj' => by
  have hjt : j < ts.length := (List.getElem?_eq_some_iff.1 hj).1
  have hjf : fs[j]? = some (fs[j]'(by omega)) := Array.getElem?_eq_getElem (by omega)
  have e1 : (fs[j]'(by omega)).type = t' := by
   have : (fs.toList.map (·.type))[j]? = some t' := by rw [hts]; exact hj
   simpa [List.getElem?_map, hjf] using this
  have e2 : ns[j]? = some (P.cellsOf t') := by rw [← hns, List.getElem?_map, hj]; rfl
  have e3 : (fs[j]'(by omega)).offset = (ns.take j).sum := by
   have : (fs.toList.map (·.offset))[j]? = ((List.range ns.length).map fun j => (ns.take j).sum)[j]? := by rw [hof]
   simpa [List.getElem?_map, hjf, show j < ns.length by omega] using this
  have h3 := hf j _ hjf
  rw [e1, e3] at h3
  rw [cuts_get cs ns j _ e2] at hj'
  injection hj' with hj'
  rw [hj'] at h3
  exact ⟨xs[j]'(by omega), by rw [h3]; exact List.getElem?_eq_getElem (by omega)⟩)
 rw [cuts_flat cs ns (by rw [hl, hC])] at h1
 exact ⟨a, h1, h2⟩
end
end Go.Proofs.Ytmigglldahkngaa.XOpen
end

section
-- PRINTED BY print.sh 35421559b90ae4d0a3588c463048766b98c2df88dd9212a6774a882060cdf62d: not written by this session
-- PRINTED WORDS (module Derived/Print/Sized.lean): go-gate-2's, for the rows of laws over slices: an AI agent of Go's test side, Tue Nov 17 2026; no person has read it. Lean checks it.
namespace Go.Proofs.YtmigglldahkngaaW.PrintWords
open Go.ChangeShapes Go.WideShapes
end Go.Proofs.YtmigglldahkngaaW.PrintWords
end
