-- Several texts in one (wip/tools/mergex.py).
import Derived.Test.YthcmelchgnekpaaXMem
import Derived.Test.YthcmelchgnekpaaPAx4
import Derived.Test.YthcmelchgnekpaaPAx5
import Derived.Deep.DeepCutAuto
import Derived.Deep.RegionHeld3

/- law17's live, walked: its answers are those that the document gives. -/
namespace Go.Proofs.Ythcmelchgnekpaa.XLive17
open Go.RowKit Go.Proofs.YthcmelchgnekpaaW.PrintWords Go.Proofs.YthcmelchgnekpaaW.PrintLast Go.Proofs.YthcmelchgnekpaaW.PrintMore Go.Proofs.Ythcmelchgnekpaa.XQuiet Go.Proofs.Ythcmelchgnekpaa.XMem Go.Proofs.Ythcmelchgnekpaa.PA
set_option linter.unusedVariables false
set_option linter.unusedSimpArgs false
abbrev Ch := S33
abbrev kCh : Kd Ch := k33
abbrev Se := S52
abbrev kSe : Kd Se := k52
theorem push_im {w : World} {v : Value} {l : List Ch} {b : Bool} {a0 : ByteArray} {a1 : Bool} {a2 a3 a4 : Int} {a5 : ByteArray} {room : Int} {r1 : List Ch} {r2 : Bool} (h : Im kCh w v l) (n : Nat) (hf : queue_Push.f l b a0 a1 a2 a3 a4 a5 room = some (r1, r2)) (hn : r1.length = n) :
    Calls Try.prog 26 #[.agg #[v, .bool b], .agg #[.string a0, .bool a1, .int .i64 a2, .int .i64 a3, .int .i64 a4, .string a5], .int .i64 room] w fun e w' => ∃ A c, e = .returned (.agg #[.slice A n c, .bool r2]) ∧ Im kCh w' (.slice A n c) r1 ∧ Below w.heap.size w w' := by
  subst hn
  obtain ⟨A, c, rfl, hc, hF⟩ := h
  exact (queue_Push.calls (fun _ => True) A c l b a0 a1 a2 a3 a4 a5 room r1 r2 w ⟨A, c, rfl, hc, hF⟩ hf).mono fun e w' ⟨v0, he, hV, hb⟩ => by
    obtain ⟨A', c', rfl⟩ := Kd.V_slice hV
    exact ⟨A', c', he, Im.of_V hV, hb⟩
theorem pop_im {w : World} {v : Value} {l : List Ch} {b : Bool} {r1 : ByteArray} {r2 : Bool} {r3 r4 r5 : Int} {r6 : ByteArray} {r7 : List Ch} {r8 r9 : Bool} (h : Im kCh w v l) (n : Nat) (hf : queue_Pop.f l b = some (r1, r2, r3, r4, r5, r6, r7, r8, r9)) (hn : r7.length = n) :
    Calls Try.prog 15 #[.agg #[v, .bool b]] w fun e w' => ∃ A c, e = .returned (.tuple #[.agg #[.string r1, .bool r2, .int .i64 r3, .int .i64 r4, .int .i64 r5, .string r6], .agg #[.slice A n c, .bool r8], .bool r9]) ∧ Im kCh w' (.slice A n c) r7 ∧ Below w.heap.size w w' := by
  subst hn
  obtain ⟨A, c, rfl, hc, hF⟩ := h
  exact (queue_Pop.calls (fun _ => True) A c l b r1 r2 r3 r4 r5 r6 r7 r8 r9 w ⟨A, c, rfl, hc, hF⟩ hf).mono fun e w' ⟨v0, he, hV, hb⟩ => by
    obtain ⟨A', c', rfl⟩ := Kd.V_slice hV
    exact ⟨A', c', he, Im.of_V hV, hb⟩
theorem find_im {w : World} {v : Value} {l : List Ch} {b : Bool} {s : ByteArray} {r1 : ByteArray} {r2 : Bool} {r3 r4 r5 : Int} {r6 : ByteArray} {r7 : Bool} (h : Im kCh w v l) (hf : queue_Find.f l b s = some (r1, r2, r3, r4, r5, r6, r7)) :
    Calls Try.prog 17 #[.agg #[v, .bool b], .string s] w fun e w' => e = .returned (.tuple #[.agg #[.string r1, .bool r2, .int .i64 r3, .int .i64 r4, .int .i64 r5, .string r6], .bool r7]) ∧ Below w.heap.size w w' := by
  obtain ⟨A, c, rfl, hc, hC⟩ := h.slice
  exact queue_Find.calls A c l b s r1 r2 r3 r4 r5 r6 r7 w hC hc hf
theorem same_im {w : World} {v1 v2 : Value} {l1 l2 : List Ch} {b1 b2 r : Bool} (h1 : Im kCh w v1 l1) (h2 : Im kCh w v2 l2) (hf : rollcallref17_Same.f 100 l1 b1 l2 b2 = some r) :
    Calls Try.prog 19 #[.agg #[v1, .bool b1], .agg #[v2, .bool b2]] w fun e w' => e = .returned (.bool r) ∧ Below w.heap.size w w' := by
  obtain ⟨A, c, rfl, hc, hC⟩ := h1.slice
  obtain ⟨A2, c2, rfl, hc2, hC2⟩ := h2.slice
  exact rollcallref17_Same.calls 100 A c l1 b1 A2 c2 l2 b2 r w hC hc hC2 hc2 hf
theorem may_im {w : World} {v : Value} {l : List Ch} {b r : Bool} {room : Int} (h : Im kCh w v l) (hf : queue_May.f 100 l b room = some r) :
    Calls Try.prog 13 #[.agg #[v, .bool b], .int .i64 room] w fun e w' => e = .returned (.bool r) ∧ Below w.heap.size w w' := by
  obtain ⟨A, c, rfl, hc, hC⟩ := h.slice
  exact queue_May.calls 100 A c l b room r w hC hc hf
theorem empty_im {w : World} {v : Value} {l : List Ch} {b r : Bool} (h : Im kCh w v l) (hf : queue_Empty.f l b = some r) :
    Calls Try.prog 20 #[.agg #[v, .bool b]] w fun e w' => e = .returned (.bool r) ∧ Below w.heap.size w w' := by
  obtain ⟨A, c, rfl, hc, hC⟩ := h.slice
  exact queue_Empty.calls A c l b r w hC hc hf
theorem over_im {w : World} {v1 v2 : Value} {t : List Se} {l : List Ch} {b : Bool} {r : List Se} (h1 : Im kSe w v1 t) (h2 : Im kCh w v2 l) (n : Nat) (hf : queue_Over.f 100 t l b = some r) (hn : r.length = n) :
    Calls Try.prog 23 #[v1, .agg #[v2, .bool b]] w fun e w' => ∃ A c, e = .returned (.slice A n c) ∧ Im kSe w' (.slice A n c) r ∧ Below w.heap.size w w' := by
  subst hn
  obtain ⟨A, c, rfl, hc, hF⟩ := h1
  obtain ⟨A2, c2, rfl, hc2, hC2⟩ := h2.slice
  exact (queue_Over.calls 100 (fun _ => True) A c t A2 c2 l b r w ⟨A, c, rfl, hc, hF⟩ hC2 hc2 hf).mono fun e w' ⟨v0, he, hV, hb⟩ => by
    obtain ⟨A', c', rfl⟩ := Kd.V_slice hV
    exact ⟨A', c', he, Im.of_V hV, hb⟩
abbrev sa : ByteArray := ⟨#[97]⟩
abbrev sb : ByteArray := ⟨#[98]⟩
abbrev s0 : ByteArray := ⟨#[]⟩
abbrev cb : Ch := ⟨⟨#[98]⟩, false, ⟨0, 0, 0, ⟨#[]⟩⟩⟩
abbrev ca : Ch := ⟨⟨#[97]⟩, true, ⟨4, 0, 0, ⟨#[]⟩⟩⟩
abbrev cc : Ch := ⟨⟨#[97]⟩, false, ⟨0, 0, 0, ⟨#[]⟩⟩⟩
/-- A queue's own cells hold no changes. -/
theorem im_far {w : World} {p t n c : Nat} {A : Option Addr} {b : Bool} {v : Value} {l : List Ch} (h : Im kCh w v l) (hp : w.heap[p]? = some (.cells #[.slice A n c, .bool b] t (0, 0))) (i : Nat) (x : Value) : Im kCh (w.setCell ⟨p, i, none⟩ x) v l := by
  obtain ⟨B, d, rfl, hc, hC⟩ := h.slice
  have hC' : kCh.C (w.setCell ⟨p, i, none⟩ x) B l.length l := by
    refine Kd.C_foot_ne (fun {_ _ _ _} hK => by obtain rfl := k33_open hK; exact k33_mk _ _) hC (fun ad ha hn hg => ?_) _ ((KeepBut.refl w p none).set_ i x)
    obtain ⟨ad', he, h0, _⟩ := at_T33 hC 0 (by omega) (by omega)
    rw [ha] at he
    injection he with he
    subst he
    obtain ⟨bl, of, fr⟩ := ad
    simp only at hg
    subst hg
    rw [show Int.toNat 0 * 6 = 0 from rfl] at h0
    cases fr with
    | some q => simp [Addr.add, World.cell?, hp] at h0
    | none =>
      have h1 := blk_cell hp of
      simp only [Addr.add, if_true] at h0
      rw [h1] at h0
      rcases of with _ | _ | of <;> simp at h0
  exact ⟨B, d, rfl, hc, Kd.F_mono (Kd.C_F k33_heap hC') (fun _ _ => trivial)⟩
end Go.Proofs.Ythcmelchgnekpaa.XLive17
/- law17's live, walked. -/
namespace Go.Proofs.Ythcmelchgnekpaa.XLive17
open Go.RowKit Go.Proofs.YthcmelchgnekpaaW.PrintWords Go.Proofs.YthcmelchgnekpaaW.PrintLast Go.Proofs.YthcmelchgnekpaaW.PrintMore Go.Proofs.Ythcmelchgnekpaa.XQuiet Go.Proofs.Ythcmelchgnekpaa.XMem Go.Proofs.Ythcmelchgnekpaa.PA
set_option linter.unusedVariables false
set_option linter.unusedSimpArgs false
set_option maxRecDepth 100000 in
set_option maxHeartbeats 4000000 in
theorem live_walk (w : World) : Calls Try.prog 10 #[] w fun e w' => e = .returned (.bool true) ∧ Below w.heap.size w w' := by
  go_enter Try.func10, Try.ntmps10
  have HB : Below w.heap.size w w := Below.refl _ _
  have hM : Mem w [] := Mem.nil w
  go_upto_region 2 with (fail)
  generalize hg : World.alloc _ _ = w1
  obtain ⟨hB', hM', hb'⟩ := Mem.new hg HB hM
  clear HB hM hg 
  have HB := hB'
  have hM := hM'
  clear hB' hM'
  generalize w.heap.size = p1 at hM ⊢
  have x0 := hM.cell 0 0 rfl rfl
  have x1 := hM.cell 0 1 rfl rfl
  have x2 := hM.cell 0 2 rfl rfl
  have x3 := hM.cell 0 3 rfl rfl
  go_upto_region 3 with (fail)
  generalize hg : World.alloc _ _ = w2
  obtain ⟨hB', hM', hb'⟩ := Mem.new hg HB hM
  clear HB hM hg x0 x1 x2 x3 hb'
  have HB := hB'
  have hM := hM'
  clear hB' hM'
  generalize w1.heap.size = p2 at hM ⊢
  go_upto_region 4 with (fail)
  generalize hg : World.alloc _ _ = w3
  obtain ⟨hB', hM', hb'⟩ := Mem.new hg HB hM
  clear HB hM hg hb'
  have HB := hB'
  have hM := hM'
  clear hB' hM'
  generalize w2.heap.size = p3 at hM ⊢
  go_upto_region 5 with (fail)
  generalize hg : World.alloc _ _ = w4
  obtain ⟨hB', hM', hb'⟩ := Mem.new hg HB hM
  clear HB hM hg hb'
  have HB := hB'
  have hM := hM'
  clear hB' hM'
  generalize w3.heap.size = p4 at hM ⊢
  clear hb'
  have x0 := hM.cell 2 0 rfl rfl
  have x1 := hM.cell 2 1 rfl rfl
  have x2 := hM.cell 2 2 rfl rfl
  have x3 := hM.cell 2 3 rfl rfl
  have x4 := hM.cell 2 4 rfl rfl
  have x5 := hM.cell 2 5 rfl rfl
  have y0 := hM.cell 1 0 rfl rfl
  have y1 := hM.cell 1 1 rfl rfl
  have y2 := hM.cell 1 2 rfl rfl
  have y3 := hM.cell 1 3 rfl rfl
  have y4 := hM.cell 1 4 rfl rfl
  have y5 := hM.cell 1 5 rfl rfl
  have z0 := hM.cell 0 0 rfl rfl
  have z1 := hM.cell 0 1 rfl rfl
  have z2 := hM.cell 0 2 rfl rfl
  have z3 := hM.cell 0 3 rfl rfl
  have z4 := hM.cell 0 4 rfl rfl
  have z5 := hM.cell 0 5 rfl rfl
  have SS : ∀ w' : World, Below w4.heap.size w4 w' → w'.cell? ⟨p2, 0, none⟩ = some (.string sa) ∧ w'.cell? ⟨p2, 1, none⟩ = some (.bool true) ∧ w'.cell? ⟨p2, 2, none⟩ = some (.int .i64 4) ∧ w'.cell? ⟨p2, 3, none⟩ = some (.int .i64 0) ∧ w'.cell? ⟨p2, 4, none⟩ = some (.int .i64 0) ∧ w'.cell? ⟨p2, 5, none⟩ = some (.string s0) ∧ w'.cell? ⟨p3, 0, none⟩ = some (.string sb) ∧ w'.cell? ⟨p3, 1, none⟩ = some (.bool false) ∧ w'.cell? ⟨p3, 2, none⟩ = some (.int .i64 0) ∧ w'.cell? ⟨p3, 3, none⟩ = some (.int .i64 0) ∧ w'.cell? ⟨p3, 4, none⟩ = some (.int .i64 0) ∧ w'.cell? ⟨p3, 5, none⟩ = some (.string s0) ∧ w'.cell? ⟨p4, 0, none⟩ = some (.string sa) ∧ w'.cell? ⟨p4, 1, none⟩ = some (.bool false) ∧ w'.cell? ⟨p4, 2, none⟩ = some (.int .i64 0) ∧ w'.cell? ⟨p4, 3, none⟩ = some (.int .i64 0) ∧ w'.cell? ⟨p4, 4, none⟩ = some (.int .i64 0) ∧ w'.cell? ⟨p4, 5, none⟩ = some (.string s0) := fun w' hb => ⟨pw_cell_below hb x0, pw_cell_below hb x1, pw_cell_below hb x2, pw_cell_below hb x3, pw_cell_below hb x4, pw_cell_below hb x5, pw_cell_below hb y0, pw_cell_below hb y1, pw_cell_below hb y2, pw_cell_below hb y3, pw_cell_below hb y4, pw_cell_below hb y5, pw_cell_below hb z0, pw_cell_below hb z1, pw_cell_below hb z2, pw_cell_below hb z3, pw_cell_below hb z4, pw_cell_below hb z5⟩
  clear x0 x1 x2 x3 x4 x5 y0 y1 y2 y3 y4 y5 z0 z1 z2 z3 z4 z5
  go_cut [5] (fun s5 wx => ∃ p v, s5 = .pointer (some ⟨p, 0, none⟩) ∧ wx.heap[p]? = some (.cells #[v, .bool false] 24 (0, 0)) ∧ Im kCh wx v [cc, cb] ∧ Below w4.heap.size w4 wx)
  case first =>
    go_region_held3 (fun w' => w'.cell? ⟨p2, 0, none⟩ = some (.string sa) ∧ w'.cell? ⟨p2, 1, none⟩ = some (.bool true) ∧ w'.cell? ⟨p2, 2, none⟩ = some (.int .i64 4) ∧ w'.cell? ⟨p2, 3, none⟩ = some (.int .i64 0) ∧ w'.cell? ⟨p2, 4, none⟩ = some (.int .i64 0) ∧ w'.cell? ⟨p2, 5, none⟩ = some (.string s0) ∧ w'.cell? ⟨p3, 0, none⟩ = some (.string sb) ∧ w'.cell? ⟨p3, 1, none⟩ = some (.bool false) ∧ w'.cell? ⟨p3, 2, none⟩ = some (.int .i64 0) ∧ w'.cell? ⟨p3, 3, none⟩ = some (.int .i64 0) ∧ w'.cell? ⟨p3, 4, none⟩ = some (.int .i64 0) ∧ w'.cell? ⟨p3, 5, none⟩ = some (.string s0) ∧ w'.cell? ⟨p4, 0, none⟩ = some (.string sa) ∧ w'.cell? ⟨p4, 1, none⟩ = some (.bool false) ∧ w'.cell? ⟨p4, 2, none⟩ = some (.int .i64 0) ∧ w'.cell? ⟨p4, 3, none⟩ = some (.int .i64 0) ∧ w'.cell? ⟨p4, 4, none⟩ = some (.int .i64 0) ∧ w'.cell? ⟨p4, 5, none⟩ = some (.string s0)) (exact SS _ (by repeat (first | assumption | apply below_alloc | apply below_drew1 | refine below_set ?_ (by first | exact hb3.size | exact hb2.size | exact hb1.size | exact Nat.le_refl _) | exact Below.refl _ _))) (first | (go_at_call 26; (with_reducible refine (push_im (hi2.below ?hq) (r1 := [cc, cb]) (r2 := false) 2 (by kernel_rfl) rfl).mono ?_); (case hq => repeat (first | assumption | apply below_alloc | apply below_drew1 | exact Below.refl _ _)); rintro e w7 ⟨A3, d3, rfl, hi3, hb⟩; have hb3 := below_step (show Below w4.heap.size w4 _ from (by repeat (first | assumption | apply below_alloc | apply below_drew1 | refine below_set ?_ (by first | exact hb3.size | exact hb2.size | exact hb1.size | exact Nat.le_refl _) | exact Below.refl _ _))) hb; (first | replace T5 := blk_below T5 hb | have T5 := blk_below (heap_alloc_new _ _) hb | have T5 := blk_below (new_drew _ _) hb | skip); (try rw [show w4.drew.heap.size = w4.heap.size from rfl] at T5); (try (have k50 := (blk_cell T5 0).trans rfl; have k51 := (blk_cell T5 1).trans rfl; have z50 := blk_frozen T5 0; have z51 := blk_frozen T5 1)); clear hb) | (go_at_call 26; (with_reducible refine (push_im (hi1.below ?hq) (r1 := [ca, cb]) (r2 := false) 2 (by kernel_rfl) rfl).mono ?_); (case hq => repeat (first | assumption | apply below_alloc | apply below_drew1 | exact Below.refl _ _)); rintro e w6 ⟨A2, d2, rfl, hi2, hb⟩; have hb2 := below_step (show Below w4.heap.size w4 _ from (by repeat (first | assumption | apply below_alloc | apply below_drew1 | refine below_set ?_ (by first | exact hb3.size | exact hb2.size | exact hb1.size | exact Nat.le_refl _) | exact Below.refl _ _))) hb; (first | replace T5 := blk_below T5 hb | have T5 := blk_below (heap_alloc_new _ _) hb | have T5 := blk_below (new_drew _ _) hb | skip); (try rw [show w4.drew.heap.size = w4.heap.size from rfl] at T5); (try (have k50 := (blk_cell T5 0).trans rfl; have k51 := (blk_cell T5 1).trans rfl; have z50 := blk_frozen T5 0; have z51 := blk_frozen T5 1)); clear hb) | (go_at_call 26; (with_reducible refine (push_im ((Im.nil kCh w4).below ?hq) (r1 := [ca]) (r2 := false) 1 (by kernel_rfl) rfl).mono ?_); (case hq => repeat (first | assumption | apply below_alloc | apply below_drew1 | exact Below.refl _ _)); rintro e w5 ⟨A1, d1, rfl, hi1, hb⟩; have hb1 := below_step (show Below w4.heap.size w4 _ from (by repeat (first | assumption | apply below_alloc | apply below_drew1 | refine below_set ?_ (by first | exact hb3.size | exact hb2.size | exact hb1.size | exact Nat.le_refl _) | exact Below.refl _ _))) hb; (first | replace T5 := blk_below T5 hb | have T5 := blk_below (heap_alloc_new _ _) hb | have T5 := blk_below (new_drew _ _) hb | skip); (try rw [show w4.drew.heap.size = w4.heap.size from rfl] at T5); (try (have k50 := (blk_cell T5 0).trans rfl; have k51 := (blk_cell T5 1).trans rfl; have z50 := blk_frozen T5 0; have z51 := blk_frozen T5 1)); clear hb))
    all_goals (go_wp2_with fail; go_meet; first | exact ⟨w7.heap.size, _, rfl, heap_alloc_new _ _, hi3.below (below_alloc (Below.refl _ _) _), below_alloc hb3 _⟩ | exact ⟨_, _, rfl, blk_set (blk_set T5 0 _) 1 _, im_far (im_far hi3 T5 0 _) (blk_set T5 0 _) 1 _, below_set (below_set hb3 (by first | exact hb2.size | exact hb1.size | exact Nat.le_refl _)) (by first | exact hb2.size | exact hb1.size | exact Nat.le_refl _)⟩)
  case rest =>
    obtain ⟨p5, v, rfl, T5, hi5, hb⟩ := hcut
    obtain ⟨A5, d5, rfl⟩ : ∃ A c, v = .slice A 2 c := by obtain ⟨A, c, e, _⟩ := hi5.slice; exact ⟨A, c, e⟩
    replace HB := below_step HB hb
    replace hM := (hM.below hb).cons T5
    clear SS hb T5
    have q0 := hM.cell 0 0 rfl rfl
    have q1 := hM.cell 0 1 rfl rfl
    go_wp2_with fail
    refine (pop_im hi5 (r1 := sa) (r2 := false) (r3 := 0) (r4 := 0) (r5 := 0) (r6 := s0) (r7 := [cb]) (r8 := false) (r9 := true) 1 (by kernel_rfl) rfl).mono ?_
    rintro e w6 ⟨A6, d6, rfl, hi6, hb⟩
    replace HB := below_step HB hb
    replace hM := hM.below hb
    replace hi5 := hi5.below hb
    clear hb q0 q1
    go_upto_region 7 with (fail)
    generalize hg : World.alloc _ _ = w7
    obtain ⟨hB', hM', hb⟩ := Mem.new2 hg HB hM
    clear HB hM hg
    have HB := hB'
    have hM := hM'
    replace hi5 := hi5.below hb
    replace hi6 := hi6.below hb
    clear hB' hM' hb
    generalize w6.heap.size + 1 = p7 at hM ⊢
    generalize w6.heap.size = p6 at hM ⊢
    have q0 := hM.cell 2 0 rfl rfl
    have q1 := hM.cell 2 1 rfl rfl
    go_wp2_with fail
    refine (push_im hi5 (r1 := []) (r2 := true) 0 (by kernel_rfl) rfl).mono ?_
    rintro e w8 ⟨A9, d9, rfl, hi9, hb⟩
    replace HB := below_step HB hb
    replace hM := hM.below hb
    replace hi5 := hi5.below hb
    replace hi6 := hi6.below hb
    clear hb q0 q1
    go_upto_region 8 with (fail)
    generalize hg : World.alloc _ _ = w9
    obtain ⟨hB', hM', hb⟩ := Mem.new hg HB hM
    clear HB hM hg
    have HB := hB'
    have hM := hM'
    replace hi5 := hi5.below hb
    replace hi6 := hi6.below hb
    replace hi9 := hi9.below hb
    clear hB' hM' hb
    generalize w8.heap.size = p9 at hM ⊢
    have q0 := hM.cell 3 0 rfl rfl
    have q1 := hM.cell 3 1 rfl rfl
    go_wp2_with fail
    refine (find_im hi5 (r1 := sb) (r2 := false) (r3 := 0) (r4 := 0) (r5 := 0) (r6 := s0) (r7 := true) (by kernel_rfl)).mono ?_
    rintro e w10 ⟨rfl, hb⟩
    replace HB := below_step HB hb
    replace hM := hM.below hb
    replace hi5 := hi5.below hb
    replace hi6 := hi6.below hb
    replace hi9 := hi9.below hb
    clear hb q0 q1
    go_upto_region 9 with (fail)
    generalize hg : World.alloc _ _ = w11
    obtain ⟨hB', hM', hb⟩ := Mem.new hg HB hM
    clear HB hM hg
    have HB := hB'
    have hM := hM'
    replace hi5 := hi5.below hb
    replace hi6 := hi6.below hb
    replace hi9 := hi9.below hb
    clear hB' hM' hb
    generalize w10.heap.size = p10 at hM ⊢
    have q0 := hM.cell 4 0 rfl rfl
    have q1 := hM.cell 4 1 rfl rfl
    go_wp2_with fail
    refine (find_im hi5 (r1 := s0) (r2 := false) (r3 := 0) (r4 := 0) (r5 := 0) (r6 := s0) (r7 := false) (by kernel_rfl)).mono ?_
    rintro e w12 ⟨rfl, hb⟩
    replace HB := below_step HB hb
    replace hM := hM.below hb
    replace hi5 := hi5.below hb
    replace hi6 := hi6.below hb
    replace hi9 := hi9.below hb
    clear hb q0 q1
    go_upto_region 10 with (fail)
    generalize hg : World.alloc _ _ = w13
    obtain ⟨hB', hM', hb⟩ := Mem.new hg HB hM
    clear HB hM hg
    have HB := hB'
    have hM := hM'
    replace hi5 := hi5.below hb
    replace hi6 := hi6.below hb
    replace hi9 := hi9.below hb
    clear hB' hM' hb
    generalize w12.heap.size = p12 at hM ⊢
    go_wp2_with fail
    refine (pop_im (Im.nil kCh _) (r1 := s0) (r2 := false) (r3 := 0) (r4 := 0) (r5 := 0) (r6 := s0) (r7 := []) (r8 := false) (r9 := false) 0 (by kernel_rfl) rfl).mono ?_
    rintro e w14 ⟨A14, d14, rfl, hi14, hb⟩
    replace HB := below_step HB hb
    replace hM := hM.below hb
    replace hi5 := hi5.below hb
    replace hi6 := hi6.below hb
    replace hi9 := hi9.below hb
    clear hb 
    go_upto_region 11 with (fail)
    generalize hg : World.alloc _ _ = w15
    obtain ⟨hB', hM', hb⟩ := Mem.new2 hg HB hM
    clear HB hM hg
    have HB := hB'
    have hM := hM'
    replace hi5 := hi5.below hb
    replace hi6 := hi6.below hb
    replace hi9 := hi9.below hb
    clear hB' hM' hb
    generalize w14.heap.size + 1 = p15 at hM ⊢
    generalize w14.heap.size = p14 at hM ⊢
    clear hi14
    have f0 := fun u : Kin w15 => (hM.below u.bel).cell 3 0 rfl rfl
    have f1 := fun u : Kin w15 => (hM.below u.bel).cell 3 1 rfl rfl
    have f2 := fun u : Kin w15 => (hM.below u.bel).cell 3 2 rfl rfl
    have f3 := fun u : Kin w15 => (hM.below u.bel).cell 3 3 rfl rfl
    have f4 := fun u : Kin w15 => (hM.below u.bel).cell 3 4 rfl rfl
    have f5 := fun u : Kin w15 => (hM.below u.bel).cell 3 5 rfl rfl
    have f6 := fun u : Kin w15 => (hM.below u.bel).cell 4 0 rfl rfl
    have f7 := fun u : Kin w15 => (hM.below u.bel).cell 4 1 rfl rfl
    have f8 := fun u : Kin w15 => (hM.below u.bel).cell 5 0 rfl rfl
    have f9 := fun u : Kin w15 => (hM.below u.bel).cell 5 1 rfl rfl
    have f10 := fun u : Kin w15 => (hM.below u.bel).cell 6 0 rfl rfl
    have f11 := fun u : Kin w15 => (hM.below u.bel).cell 6 1 rfl rfl
    have f12 := fun u : Kin w15 => (hM.below u.bel).cell 6 2 rfl rfl
    have f13 := fun u : Kin w15 => (hM.below u.bel).cell 6 3 rfl rfl
    have f14 := fun u : Kin w15 => (hM.below u.bel).cell 6 4 rfl rfl
    have f15 := fun u : Kin w15 => (hM.below u.bel).cell 6 5 rfl rfl
    have f16 := fun u : Kin w15 => (hM.below u.bel).cell 7 0 rfl rfl
    have f17 := fun u : Kin w15 => (hM.below u.bel).cell 7 1 rfl rfl
    have f18 := fun u : Kin w15 => (hM.below u.bel).cell 8 0 rfl rfl
    have f19 := fun u : Kin w15 => (hM.below u.bel).cell 8 1 rfl rfl
    have f20 := fun u : Kin w15 => (hM.below u.bel).cell 8 2 rfl rfl
    have f21 := fun u : Kin w15 => (hM.below u.bel).cell 8 3 rfl rfl
    have f22 := fun u : Kin w15 => (hM.below u.bel).cell 8 4 rfl rfl
    have f23 := fun u : Kin w15 => (hM.below u.bel).cell 8 5 rfl rfl
    have f24 := fun u : Kin w15 => (hM.below u.bel).cell 9 0 rfl rfl
    have f25 := fun u : Kin w15 => (hM.below u.bel).cell 9 1 rfl rfl
    have f26 := fun u : Kin w15 => (hM.below u.bel).cell 9 2 rfl rfl
    have f27 := fun u : Kin w15 => (hM.below u.bel).cell 9 3 rfl rfl
    have f28 := fun u : Kin w15 => (hM.below u.bel).cell 9 4 rfl rfl
    have f29 := fun u : Kin w15 => (hM.below u.bel).cell 9 5 rfl rfl
    have f30 := fun u : Kin w15 => (hM.below u.bel).cell 10 0 rfl rfl
    have f31 := fun u : Kin w15 => (hM.below u.bel).cell 10 1 rfl rfl
    have f32 := fun u : Kin w15 => (hM.below u.bel).cell 10 2 rfl rfl
    have f33 := fun u : Kin w15 => (hM.below u.bel).cell 10 3 rfl rfl
    have f34 := fun u : Kin w15 => (hM.below u.bel).cell 10 4 rfl rfl
    have f35 := fun u : Kin w15 => (hM.below u.bel).cell 10 5 rfl rfl
    have f36 := fun u : Kin w15 => (hM.below u.bel).cell 11 0 rfl rfl
    have f37 := fun u : Kin w15 => (hM.below u.bel).cell 11 1 rfl rfl
    have f38 := fun u : Kin w15 => (hM.below u.bel).cell 11 2 rfl rfl
    have f39 := fun u : Kin w15 => (hM.below u.bel).cell 11 3 rfl rfl
    have I5 := fun u : Kin w15 => hi5.below u.bel
    have I6 := fun u : Kin w15 => hi6.below u.bel
    have I9 := fun u : Kin w15 => hi9.below u.bel
    have g5 := fun u : Kin w15 => blk_lt ((hM.below u.bel).get 7 rfl)
    clear hM hi5 hi6 hi9
    obtain ⟨u0, hu0⟩ : ∃ u : Kin w15, w15 = u.at' := ⟨⟨w15, Below.refl _ _⟩, rfl⟩
    rw [hu0]
    clear hu0
    go_wp2_with fail
    generalize hg : World.alloc _ _ = wz
    have hl1 := Im.lit kCh hg (xs := [cc, cb]) (Reps.c6 (k33_mkM _ _ _ cc) (Reps.c6 (k33_mkM _ _ _ cb) (Reps.none _ _))) (by simp)
    obtain ⟨u1, rfl⟩ : ∃ u : Kin w15, wz = u.at' := ⟨⟨wz, below_step u0.bel (al_below hg)⟩, rfl⟩
    clear hg
    go_wp2_with fail
    refine (same_im (I5 _) hl1 (r := true) (by kernel_rfl)).mono ?_
    rintro e wz ⟨rfl, hb⟩
    obtain ⟨u2, rfl⟩ : ∃ u : Kin w15, wz = u.at' := ⟨⟨wz, below_step u1.bel hb⟩, rfl⟩
    clear hb
    clear hl1
    go_wp2_with fail
    generalize hg : World.alloc _ _ = wz
    have hl2 := Im.lit kCh hg (xs := [cb]) (Reps.c6 (k33_mkM _ _ _ cb) (Reps.none _ _)) (by simp)
    obtain ⟨u3, rfl⟩ : ∃ u : Kin w15, wz = u.at' := ⟨⟨wz, below_step u2.bel (al_below hg)⟩, rfl⟩
    clear hg
    go_wp2_with fail
    refine (same_im (I6 _) hl2 (r := true) (by kernel_rfl)).mono ?_
    rintro e wz ⟨rfl, hb⟩
    obtain ⟨u4, rfl⟩ : ∃ u : Kin w15, wz = u.at' := ⟨⟨wz, below_step u3.bel hb⟩, rfl⟩
    clear hb
    clear hl2
    go_wp2_with fail
    refine (queue_One.calls sa true 4 0 0 s0 true _ (by kernel_rfl)).mono ?_
    rintro e wz ⟨rfl, hb⟩
    obtain ⟨u5, rfl⟩ : ∃ u : Kin w15, wz = u.at' := ⟨⟨wz, below_step u4.bel hb⟩, rfl⟩
    clear hb
    go_wp2_with fail
    refine (queue_One.calls sa true 0 0 0 s0 false _ (by kernel_rfl)).mono ?_
    rintro e wz ⟨rfl, hb⟩
    obtain ⟨u6, rfl⟩ : ∃ u : Kin w15, wz = u.at' := ⟨⟨wz, below_step u5.bel hb⟩, rfl⟩
    clear hb
    go_wp2_with fail
    refine (may_im (I5 _) (r := true) (by kernel_rfl)).mono ?_
    rintro e wz ⟨rfl, hb⟩
    obtain ⟨u7, rfl⟩ : ∃ u : Kin w15, wz = u.at' := ⟨⟨wz, below_step u6.bel hb⟩, rfl⟩
    clear hb
    go_wp2_with fail
    refine (may_im (I5 _) (r := false) (by kernel_rfl)).mono ?_
    rintro e wz ⟨rfl, hb⟩
    obtain ⟨u8, rfl⟩ : ∃ u : Kin w15, wz = u.at' := ⟨⟨wz, below_step u7.bel hb⟩, rfl⟩
    clear hb
    go_wp2_with fail
    refine (empty_im (Im.nil kCh _) (r := true) (by kernel_rfl)).mono ?_
    rintro e wz ⟨rfl, hb⟩
    obtain ⟨u9, rfl⟩ : ∃ u : Kin w15, wz = u.at' := ⟨⟨wz, below_step u8.bel hb⟩, rfl⟩
    clear hb
    go_wp2_with fail
    refine (empty_im (I9 _) (r := false) (by kernel_rfl)).mono ?_
    rintro e wz ⟨rfl, hb⟩
    obtain ⟨u10, rfl⟩ : ∃ u : Kin w15, wz = u.at' := ⟨⟨wz, below_step u9.bel hb⟩, rfl⟩
    clear hb
    go_wp2_with fail
    generalize hg : World.alloc _ _ = wz
    have hl3 := Im.lit kSe hg (xs := [⟨sa, ⟨4, 0, 0, s0⟩⟩]) (Reps.c5 (k52_mkM _ _ _ (⟨sa, ⟨4, 0, 0, s0⟩⟩ : Se)) (Reps.none _ _)) (by simp)
    obtain ⟨u11, rfl⟩ : ∃ u : Kin w15, wz = u.at' := ⟨⟨wz, below_step u10.bel (al_below hg)⟩, rfl⟩
    clear hg
    go_wp2_with fail
    refine (over_im hl3 (I5 _) (r := []) 0 (by kernel_rfl) rfl).mono ?_
    rintro e wz ⟨A20, d20, rfl, hi20, hb⟩
    obtain ⟨u12, rfl⟩ : ∃ u : Kin w15, wz = u.at' := ⟨⟨wz, below_step u11.bel hb⟩, rfl⟩
    clear hb
    go_wp2
    go_ret
    exact ⟨rfl, HB.trans (u12.bel.mono HB.size)⟩
end Go.Proofs.Ythcmelchgnekpaa.XLive17
