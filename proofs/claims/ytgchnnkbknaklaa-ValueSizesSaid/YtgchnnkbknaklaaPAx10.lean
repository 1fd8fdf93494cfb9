-- Written by a program of this session (wip/tools/xprint.py), which drives the kit's print.
import Derived.Test.YtgchnnkbknaklaaPAx0
import Derived.Test.YtgchnnkbknaklaaPAx1
import Derived.Test.YtgchnnkbknaklaaPAx2
import Derived.Test.YtgchnnkbknaklaaPAx4
namespace Go.Proofs.Ytgchnnkbknaklaa.PA
open Go.RowKit Go.Proofs.YtgchnnkbknaklaaW.PrintWords Go.Proofs.YtgchnnkbknaklaaW.PrintLast Go.Proofs.YtgchnnkbknaklaaW.PrintMore
attribute [local go_sem] max2_int min2_int max_two min_two max_three min_three max_four min_four   -- for this text's walks alone
set_option linter.unusedVariables false
set_option linter.unusedSimpArgs false

attribute [local go_sem high] eqA23
/-! ### rollcalllaw04_ValueApart: function 6 -/
mutual
def rollcalllaw04_ValueApart.j0 : Nat → Int → Bool → Int → Int → Int → ByteArray → Int → Int → Int → ByteArray → Option (Bool)
  | 0, _, _, _, _, _, _, _, _, _, _ => none
  | k + 1, x2, x24, x259000, x259001, x259002, x259003, x260000, x260001, x260002, x260003 => if x24 = true then ((rollcalllaw04_live.f k).bind fun t260 => (some t260)) else ((value_Put.f k x259000 x259001 x259002 x259003).bind fun bt261 => ((value_Put.f k x260000 x260001 x260002 x260003).bind fun bt263 => (if bt261.2 = true then (if bt263.2 = true then (if ((bt261.1.toList == bt263.1.toList) != (x259000 == x260000 && (x259001 == x260001 && (x259002 == x260002 && (x259003.toList == x260003.toList))))) = true then (rollcalllaw04_ValueApart.j1 k x2 true) else (if (bt261.1.size : Int) < (bt263.1.size : Int) then (if 0 ≤ (bt261.1.size : Int) then (if (bt261.1.size : Int) ≤ (bt263.1.size : Int) then (rollcalllaw04_ValueApart.j1 k x2 ((bt263.1.extract 0 bt261.1.size).toList == bt261.1.toList)) else (none)) else (none)) else (rollcalllaw04_ValueApart.j1 k x2 false))) else (rollcalllaw04_ValueApart.j1 k x2 false)) else (rollcalllaw04_ValueApart.j1 k x2 false))))
def rollcalllaw04_ValueApart.j1 : Nat → Int → Bool → Option (Bool)
  | 0, _, _ => none
  | k + 1, x2, x63 => if x63 = true then (some false) else ((value_Say.f x2).bind fun bt265 => ((value_Hear.f bt265.1).bind fun bt267 => (if bt265.2 = true then (if bt267.2 = true then (if bt267.1 = x2 then ((rollcalllaw04_live.f k).bind fun t269 => (some t269)) else (some false)) else (some false)) else (if bt265.1.toList = ([] : List UInt8) then (if bt267.2 = true then (some false) else ((rollcalllaw04_live.f k).bind fun t270 => (some t270))) else (some false)))))
end
def rollcalllaw04_ValueApart.f (k : Nat) (a0_0 : Int) (a0_1 : Int) (a0_2 : Int) (a0_3 : ByteArray) (a1_0 : Int) (a1_1 : Int) (a1_2 : Int) (a1_3 : ByteArray) (a2 : Int) : Option (Bool) := if (a0_3.size : Int) > 300 then (rollcalllaw04_ValueApart.j0 k a2 true a0_0 a0_1 a0_2 a0_3 a1_0 a1_1 a1_2 a1_3) else (rollcalllaw04_ValueApart.j0 k a2 (decide ((a1_3.size : Int) > 300)) a0_0 a0_1 a0_2 a0_3 a1_0 a1_1 a1_2 a1_3)
theorem rollcalllaw04_ValueApart.mono_l : ∀ k, (∀ y0 y1 y2 y3 y4 y5 y6 y7 y8 y9, LeO (rollcalllaw04_ValueApart.j0 k y0 y1 y2 y3 y4 y5 y6 y7 y8 y9) (rollcalllaw04_ValueApart.j0 (k + 1) y0 y1 y2 y3 y4 y5 y6 y7 y8 y9)) ∧ (∀ y0 y1, LeO (rollcalllaw04_ValueApart.j1 k y0 y1) (rollcalllaw04_ValueApart.j1 (k + 1) y0 y1))
  | 0 => ⟨fun _ _ _ _ _ _ _ _ _ _ r h => by simp [rollcalllaw04_ValueApart.j0] at h, fun _ _ r h => by simp [rollcalllaw04_ValueApart.j1] at h⟩
  | k + 1 => by
    obtain ⟨ih0, ih1⟩ := rollcalllaw04_ValueApart.mono_l k
    refine ⟨?_, ?_⟩
    · intro y0 y1 y2 y3 y4 y5 y6 y7 y8 y9
      unfold rollcalllaw04_ValueApart.j0
      repeat' first
      | (with_reducible exact ih0 _ _ _ _ _ _ _ _ _ _)
      | (with_reducible exact ih1 _ _)
      | (with_reducible exact rollcalllaw04_live.mono _)
      | (with_reducible exact value_Put.mono _ _ _ _ _)
      | (with_reducible exact LeO.refl _)
      | (with_reducible exact LeO.none _)
      | (with_reducible refine LeO.ite ?_ ?_)
      | (with_reducible refine LeO.bind ?_ (fun _ => ?_))
      | exact ih0 _ _ _ _ _ _ _ _ _ _
      | exact ih1 _ _
      | exact rollcalllaw04_live.mono _
      | exact value_Put.mono _ _ _ _ _
      | exact LeO.none _
      | refine LeO.ite ?_ ?_
      | refine LeO.bind ?_ (fun _ => ?_)
    · intro y0 y1
      unfold rollcalllaw04_ValueApart.j1
      repeat' first
      | (with_reducible exact ih0 _ _ _ _ _ _ _ _ _ _)
      | (with_reducible exact ih1 _ _)
      | (with_reducible exact rollcalllaw04_live.mono _)
      | (with_reducible exact value_Put.mono _ _ _ _ _)
      | (with_reducible exact LeO.refl _)
      | (with_reducible exact LeO.none _)
      | (with_reducible refine LeO.ite ?_ ?_)
      | (with_reducible refine LeO.bind ?_ (fun _ => ?_))
      | exact ih0 _ _ _ _ _ _ _ _ _ _
      | exact ih1 _ _
      | exact rollcalllaw04_live.mono _
      | exact value_Put.mono _ _ _ _ _
      | exact LeO.none _
      | refine LeO.ite ?_ ?_
      | refine LeO.bind ?_ (fun _ => ?_)
theorem rollcalllaw04_ValueApart.mono : ∀ a0 a1 a2 a3 a4 a5 a6 a7 a8 k, LeO (rollcalllaw04_ValueApart.f k a0 a1 a2 a3 a4 a5 a6 a7 a8) (rollcalllaw04_ValueApart.f (k + 1) a0 a1 a2 a3 a4 a5 a6 a7 a8) := by
  intro a0 a1 a2 a3 a4 a5 a6 a7 a8 k
  obtain ⟨ih0, ih1⟩ := rollcalllaw04_ValueApart.mono_l k
  unfold rollcalllaw04_ValueApart.f
  repeat' first
      | (with_reducible exact ih0 _ _ _ _ _ _ _ _ _ _)
      | (with_reducible exact ih1 _ _)
      | (with_reducible exact rollcalllaw04_live.mono _)
      | (with_reducible exact value_Put.mono _ _ _ _ _)
      | (with_reducible exact LeO.refl _)
      | (with_reducible exact LeO.none _)
      | (with_reducible refine LeO.ite ?_ ?_)
      | (with_reducible refine LeO.bind ?_ (fun _ => ?_))
      | exact ih0 _ _ _ _ _ _ _ _ _ _
      | exact ih1 _ _
      | exact rollcalllaw04_live.mono _
      | exact value_Put.mono _ _ _ _ _
      | exact LeO.none _
      | refine LeO.ite ?_ ?_
      | refine LeO.bind ?_ (fun _ => ?_)
set_option maxHeartbeats 8000000 in
set_option maxRecDepth 100000 in
theorem rollcalllaw04_ValueApart.calls (k : Nat) (a0_0 : Int) (a0_1 : Int) (a0_2 : Int) (a0_3 : ByteArray) (a1_0 : Int) (a1_1 : Int) (a1_2 : Int) (a1_3 : ByteArray) (a2 : Int) (r : Bool) (hT_ : r = true) (w : World) (h : rollcalllaw04_ValueApart.f k a0_0 a0_1 a0_2 a0_3 a1_0 a1_1 a1_2 a1_3 a2 = some r) :
    Calls Try.prog 6 #[.agg #[.int .i64 a0_0, .int .i64 a0_1, .int .i64 a0_2, .string a0_3], .agg #[.int .i64 a1_0, .int .i64 a1_1, .int .i64 a1_2, .string a1_3], .int .i64 a2] w fun e w' => e = .returned (.bool r) ∧ Below w.heap.size w w' := by
  have hu23 := Try.underlying23
  have HT := Aside0.mk hT_
  clear hT_
  have HB := Aside0.mk (Below.refl w.heap.size w)
  have H : (if (a0_3.size : Int) > 300 then (rollcalllaw04_ValueApart.j0 k a2 true a0_0 a0_1 a0_2 a0_3 a1_0 a1_1 a1_2 a1_3) else (rollcalllaw04_ValueApart.j0 k a2 (decide ((a1_3.size : Int) > 300)) a0_0 a0_1 a0_2 a0_3 a1_0 a1_1 a1_2 a1_3)) = some r := h
  clear h
  have HC4 := Aside0.mk H
  clear H
  go_enter Try.func6, Try.ntmps6
  go_upto_region 1 with (first | ((with_reducible refine gate_dst (N := 3) rfl ?_); (try (refine gate_guard (by rfl) ?_; dsimp only)); refine box_event ?hg (N := 3) ?hd (cs := #[.int .i64 a0_0, .int .i64 a0_1, .int .i64 a0_2, .string a0_3]) (t := 23) ?hr ?_; (case hd => rfl); (case hg => rfl); (case hr => first | (go_simp; done) | (go_simp; rfl)); intro gb258 hg w5 hbox hb; have n0_ := Aside0.mk (below_step (by repeat (first | (with_reducible first | exact HB.out | apply below_alloc | apply pw_below_drewN | apply below_drew1) | exact HB.out)) hb); have n1_ := Aside0.mk (hbox); have n2_ := Aside0.mk ((by rw [hg]; exact (below_size (by repeat (first | (with_reducible first | exact HB.out | apply below_alloc | apply pw_below_drewN | apply below_drew1) | exact HB.out))) : w.heap.size ≤ gb258)); have n3_ := Aside0.mk ((by rw [hg]; exact (below_size (by repeat (first | (with_reducible first | exact HB.out | apply below_alloc | apply pw_below_drewN | apply below_drew1) | exact HB.out))) : w.heap.size ≤ gb258)); clear HB; have HB := n0_; have BK258 := n1_; have GW258 := n2_; have GE258 := n3_; clear n0_ n1_ n2_ n3_; clear hb hbox hg) | ((with_reducible refine gate_dst (N := 4) rfl ?_); (try (refine gate_guard (by rfl) ?_; dsimp only)); refine box_event ?hg (N := 4) ?hd (cs := #[.int .i64 a1_0, .int .i64 a1_1, .int .i64 a1_2, .string a1_3]) (t := 23) ?hr ?_; (case hd => rfl); (case hg => rfl); (case hr => first | (go_simp; done) | (go_simp; rfl)); intro gb259 hg w6 hbox hb; have n0_ := Aside0.mk (blk_below (g := gb258) (o := .cells #[.int .i64 a0_0, .int .i64 a0_1, .int .i64 a0_2, .string a0_3] 23 (0, 0)) (by (with_reducible repeat (first | refine blk_drewN ?_ _ | refine blk_drew ?_ | refine blk_alloc ?_ _)); exact BK258.out) hb); have n1_ := Aside0.mk (below_step (by repeat (first | (with_reducible first | exact HB.out | apply below_alloc | apply pw_below_drewN | apply below_drew1 | refine below_set ?_ GE258.out) | exact HB.out)) hb); have n2_ := Aside0.mk (hbox); have n3_ := Aside0.mk ((by rw [hg]; exact (below_size (by repeat (first | (with_reducible first | exact HB.out | apply below_alloc | apply pw_below_drewN | apply below_drew1 | refine below_set ?_ GE258.out) | exact HB.out))) : w.heap.size ≤ gb259)); have n4_ := Aside0.mk ((by rw [hg]; exact (below_size (by repeat (first | (with_reducible first | exact HB.out | apply below_alloc | apply pw_below_drewN | apply below_drew1 | refine below_set ?_ GE258.out) | exact HB.out))) : w.heap.size ≤ gb259)); have n5_ := Aside0.mk ((by rw [hg]; exact Nat.ne_of_lt (blk_lt (g := gb258) (o := .cells #[.int .i64 a0_0, .int .i64 a0_1, .int .i64 a0_2, .string a0_3] 23 (0, 0)) (by (with_reducible repeat (first | refine blk_drewN ?_ _ | refine blk_drew ?_ | refine blk_alloc ?_ _)); exact BK258.out)) : gb258 ≠ gb259)); have n6_ := Aside0.mk ((by rw [hg]; exact Nat.ne_of_gt (blk_lt (g := gb258) (o := .cells #[.int .i64 a0_0, .int .i64 a0_1, .int .i64 a0_2, .string a0_3] 23 (0, 0)) (by (with_reducible repeat (first | refine blk_drewN ?_ _ | refine blk_drew ?_ | refine blk_alloc ?_ _)); exact BK258.out)) : gb259 ≠ gb258)); clear BK258; clear HB; have BK258 := n0_; have HB := n1_; have BK259 := n2_; have GW259 := n3_; have GE259 := n4_; have NB258_259 := n5_; have NB259_258 := n6_; clear n0_ n1_ n2_ n3_ n4_ n5_ n6_; clear hb hbox hg))
  (try simp only [Act.put, List.setIfInBounds_toArray, List.set_cons_zero, List.set_cons_succ])
  go_cut [24] (fun v24 wc => ∃ (kq : Nat) (x24_3 : Bool), v24 = .bool x24_3 ∧ Aside0 (rollcalllaw04_ValueApart.j0 kq a2 x24_3 a0_0 a0_1 a0_2 a0_3 a1_0 a1_1 a1_2 a1_3 = some r) ∧ Aside0 (kq ≤ k) ∧ Aside0 (wc.heap[gb258]? = some (.cells #[.int .i64 a0_0, .int .i64 a0_1, .int .i64 a0_2, .string a0_3] 23 (0, 0))) ∧ Aside0 (wc.heap[gb259]? = some (.cells #[.int .i64 a1_0, .int .i64 a1_1, .int .i64 a1_2, .string a1_3] 23 (0, 0))) ∧ Aside0 (Below w.heap.size w wc))
  case first =>
    have H := HC4.out
    clear HC4
    by_cases c7 : (a0_3.size : Int) > 300
    · rw [if_pos c7] at H
      have c7b0 : decide (300 < (a0_3.size : Int)) = true := decide_eq_true c7
      have c7b1 : decide (300 < a0_3.size) = true := decide_eq_true (by omega)
      clear c7
      (first | rw [c7b0] | (simp only [i64_w, i32_w]; rw [c7b0]) | skip)
      have H' := Aside0.mk H
      clear H
      have hnb8 := NB258_259.out
      have hnc8 := NB259_258.out
      have hcz9_0 : w6.cell? ⟨gb258, 0, none⟩ = some (.int .i64 a0_0) := (blk_cell BK258.out 0).trans rfl
      have hcz9_1 : w6.cell? ⟨gb258, 1, none⟩ = some (.int .i64 a0_1) := (blk_cell BK258.out 1).trans rfl
      have hcz9_2 : w6.cell? ⟨gb258, 2, none⟩ = some (.int .i64 a0_2) := (blk_cell BK258.out 2).trans rfl
      have hcz9_3 : w6.cell? ⟨gb258, 3, none⟩ = some (.string a0_3) := (blk_cell BK258.out 3).trans rfl
      have hfz9_0 := blk_frozen BK258.out 0
      have hfz9_1 := blk_frozen BK258.out 1
      have hfz9_2 := blk_frozen BK258.out 2
      have hfz9_3 := blk_frozen BK258.out 3
      go_wp2
      go_meet
      case rel => exact ⟨_, (true), (by first | rfl | (simp; done) | (simp [*]; done)), H', ⟨by first | omega | exact Nat.le_refl _⟩, ⟨by (with_reducible repeat (first | refine blk_drewN ?_ _ | refine blk_drew ?_ | refine blk_alloc ?_ _)); exact BK258.out⟩, ⟨by (with_reducible repeat (first | refine blk_drewN ?_ _ | refine blk_drew ?_ | refine blk_alloc ?_ _)); exact BK259.out⟩, ⟨by repeat (first | (with_reducible first | exact HB.out | apply below_alloc | apply pw_below_drewN | apply below_drew1 | refine below_set ?_ GE258.out | refine below_set ?_ GE259.out) | exact HB.out)⟩⟩
    · rw [if_neg c7] at H
      have c7b0 : decide (300 < (a0_3.size : Int)) = false := decide_eq_false c7
      have c7b1 : decide (300 < a0_3.size) = false := decide_eq_false (by omega)
      clear c7
      (first | rw [c7b0] | (simp only [i64_w, i32_w]; rw [c7b0]) | skip)
      have H' := Aside0.mk H
      clear H
      have hnb10 := NB258_259.out
      have hnc10 := NB259_258.out
      have hcz11_0 : w6.cell? ⟨gb258, 0, none⟩ = some (.int .i64 a0_0) := (blk_cell BK258.out 0).trans rfl
      have hcz11_1 : w6.cell? ⟨gb258, 1, none⟩ = some (.int .i64 a0_1) := (blk_cell BK258.out 1).trans rfl
      have hcz11_2 : w6.cell? ⟨gb258, 2, none⟩ = some (.int .i64 a0_2) := (blk_cell BK258.out 2).trans rfl
      have hcz11_3 : w6.cell? ⟨gb258, 3, none⟩ = some (.string a0_3) := (blk_cell BK258.out 3).trans rfl
      have hfz11_0 := blk_frozen BK258.out 0
      have hfz11_1 := blk_frozen BK258.out 1
      have hfz11_2 := blk_frozen BK258.out 2
      have hfz11_3 := blk_frozen BK258.out 3
      have hcz12_0 : w6.cell? ⟨gb259, 0, none⟩ = some (.int .i64 a1_0) := (blk_cell BK259.out 0).trans rfl
      have hcz12_1 : w6.cell? ⟨gb259, 1, none⟩ = some (.int .i64 a1_1) := (blk_cell BK259.out 1).trans rfl
      have hcz12_2 : w6.cell? ⟨gb259, 2, none⟩ = some (.int .i64 a1_2) := (blk_cell BK259.out 2).trans rfl
      have hcz12_3 : w6.cell? ⟨gb259, 3, none⟩ = some (.string a1_3) := (blk_cell BK259.out 3).trans rfl
      have hfz12_0 := blk_frozen BK259.out 0
      have hfz12_1 := blk_frozen BK259.out 1
      have hfz12_2 := blk_frozen BK259.out 2
      have hfz12_3 := blk_frozen BK259.out 3
      go_wp2
      go_meet
      case rel => exact ⟨_, (decide ((a1_3.size : Int) > 300)), (by first | rfl | (simp; done) | (simp [*]; done)), H', ⟨by first | omega | exact Nat.le_refl _⟩, ⟨by (with_reducible repeat (first | refine blk_drewN ?_ _ | refine blk_drew ?_ | refine blk_alloc ?_ _)); exact BK258.out⟩, ⟨by (with_reducible repeat (first | refine blk_drewN ?_ _ | refine blk_drew ?_ | refine blk_alloc ?_ _)); exact BK259.out⟩, ⟨by repeat (first | (with_reducible first | exact HB.out | apply below_alloc | apply pw_below_drewN | apply below_drew1 | refine below_set ?_ GE258.out | refine below_set ?_ GE259.out) | exact HB.out)⟩⟩
  case rest =>
    clear HC4
    try clear c1
    try clear p2
    try clear c6
    try clear c7
    try clear c7b0
    try clear c7b1
    try clear c8
    try clear c10
    try clear hcz11_0
    try clear hcz11_1
    try clear hcz11_2
    try clear hcz11_3
    try clear hcz12_0
    try clear hcz12_1
    try clear hcz12_2
    try clear hcz12_3
    try clear hcz9_0
    try clear hcz9_1
    try clear hcz9_2
    try clear hcz9_3
    try clear hfz11_0
    try clear hfz11_1
    try clear hfz11_2
    try clear hfz11_3
    try clear hfz12_0
    try clear hfz12_1
    try clear hfz12_2
    try clear hfz12_3
    try clear hfz9_0
    try clear hfz9_1
    try clear hfz9_2
    try clear hfz9_3
    obtain ⟨kq, x24_3, rfl, HA, HJ3, BK258, BK259, HB⟩ := hcut
    cases kq with
    | zero => exact absurd HA.out (by simp [rollcalllaw04_ValueApart.j0])
    | succ kj3 =>
      have H := HA.out
      clear HA
      simp only [rollcalllaw04_ValueApart.j0] at H
      by_cases c13 : x24_3 = true
      · subst c13
        have H1 : ((rollcalllaw04_live.f kj3).bind fun t260 => (some t260)) = some r := by rw [if_pos rfl] at H; exact H
        clear H
        have H := H1
        clear H1
        replace H := Option.bind_eq_some_iff.mp H
        obtain ⟨t260, A140, H⟩ := H
        replace H : (some t260) = some r := H
        have A14 := Aside0.mk A140
        clear A140
        obtain rfl := Option.some.inj H
        go_wp2_with (first | ((with_reducible refine gate_callee (f := 8) rfl ?_); refine goesL_ (some 25) rfl rfl Try.func8 (by kernel_rfl) rfl #[] rfl (by (try simp only [List.map_toArray, List.map_cons, List.map_nil]); first | done | rfl | (simp only [List.length_drop, List.length_take]; rfl)) ?_; (with_reducible refine (rollcalllaw04_live.calls kj3  t260 _ A14.out).mono ?_); rintro e w15 ⟨rfl, hb⟩; refine ⟨_, rfl, ?_⟩; have n0_ := Aside0.mk (blk_below (g := gb258) (o := .cells #[.int .i64 a0_0, .int .i64 a0_1, .int .i64 a0_2, .string a0_3] 23 (0, 0)) (by (with_reducible repeat (first | refine blk_drewN ?_ _ | refine blk_drew ?_ | refine blk_alloc ?_ _)); exact BK258.out) hb); have n1_ := Aside0.mk (blk_below (g := gb259) (o := .cells #[.int .i64 a1_0, .int .i64 a1_1, .int .i64 a1_2, .string a1_3] 23 (0, 0)) (by (with_reducible repeat (first | refine blk_drewN ?_ _ | refine blk_drew ?_ | refine blk_alloc ?_ _)); exact BK259.out) hb); have n2_ := Aside0.mk (below_step (by repeat (first | (with_reducible first | exact HB.out | apply below_alloc | apply pw_below_drewN | apply below_drew1 | refine below_set ?_ GE258.out | refine below_set ?_ GE259.out) | exact HB.out)) hb); clear BK258; clear BK259; clear HB; have BK258 := n0_; have BK259 := n1_; have HB := n2_; clear n0_ n1_ n2_; (try clear hb); (try clear hb2); (try clear hk); (try clear hi)))
        go_ret
        exact ⟨by first | rfl | (simp [errW_none, errW_some] <;> rfl) | (simp [*, errW_none, errW_some] <;> rfl), by repeat (first | (with_reducible first | exact HB.out | apply below_alloc | apply pw_below_drewN | apply below_drew1 | refine below_set ?_ GE258.out | refine below_set ?_ GE259.out) | exact HB.out)⟩
      · replace c13 := Bool.eq_false_iff.mpr c13
        subst c13
        have H1 : ((value_Put.f kj3 a0_0 a0_1 a0_2 a0_3).bind fun bt261 => ((value_Put.f kj3 a1_0 a1_1 a1_2 a1_3).bind fun bt263 => (if bt261.2 = true then (if bt263.2 = true then (if ((bt261.1.toList == bt263.1.toList) != (a0_0 == a1_0 && (a0_1 == a1_1 && (a0_2 == a1_2 && (a0_3.toList == a1_3.toList))))) = true then (rollcalllaw04_ValueApart.j1 kj3 a2 true) else (if (bt261.1.size : Int) < (bt263.1.size : Int) then (if 0 ≤ (bt261.1.size : Int) then (if (bt261.1.size : Int) ≤ (bt263.1.size : Int) then (rollcalllaw04_ValueApart.j1 kj3 a2 ((bt263.1.extract 0 bt261.1.size).toList == bt261.1.toList)) else (none)) else (none)) else (rollcalllaw04_ValueApart.j1 kj3 a2 false))) else (rollcalllaw04_ValueApart.j1 kj3 a2 false)) else (rollcalllaw04_ValueApart.j1 kj3 a2 false)))) = some r := by rw [if_neg (show ¬ (false = true) by decide)] at H; exact H
        clear H
        have H := H1
        clear H1
        replace H := Option.bind_eq_some_iff.mp H
        obtain ⟨⟨t261, t262⟩, A160, H⟩ := H
        replace H : ((value_Put.f kj3 a1_0 a1_1 a1_2 a1_3).bind fun bt263 => (if t262 = true then (if bt263.2 = true then (if ((t261.toList == bt263.1.toList) != (a0_0 == a1_0 && (a0_1 == a1_1 && (a0_2 == a1_2 && (a0_3.toList == a1_3.toList))))) = true then (rollcalllaw04_ValueApart.j1 kj3 a2 true) else (if (t261.size : Int) < (bt263.1.size : Int) then (if 0 ≤ (t261.size : Int) then (if (t261.size : Int) ≤ (bt263.1.size : Int) then (rollcalllaw04_ValueApart.j1 kj3 a2 ((bt263.1.extract 0 t261.size).toList == t261.toList)) else (none)) else (none)) else (rollcalllaw04_ValueApart.j1 kj3 a2 false))) else (rollcalllaw04_ValueApart.j1 kj3 a2 false)) else (rollcalllaw04_ValueApart.j1 kj3 a2 false))) = some r := H
        have A16 := Aside0.mk A160
        clear A160
        replace H := Option.bind_eq_some_iff.mp H
        obtain ⟨⟨t263, t264⟩, A170, H⟩ := H
        replace H : (if t262 = true then (if t264 = true then (if ((t261.toList == t263.toList) != (a0_0 == a1_0 && (a0_1 == a1_1 && (a0_2 == a1_2 && (a0_3.toList == a1_3.toList))))) = true then (rollcalllaw04_ValueApart.j1 kj3 a2 true) else (if (t261.size : Int) < (t263.size : Int) then (if 0 ≤ (t261.size : Int) then (if (t261.size : Int) ≤ (t263.size : Int) then (rollcalllaw04_ValueApart.j1 kj3 a2 ((t263.extract 0 t261.size).toList == t261.toList)) else (none)) else (none)) else (rollcalllaw04_ValueApart.j1 kj3 a2 false))) else (rollcalllaw04_ValueApart.j1 kj3 a2 false)) else (rollcalllaw04_ValueApart.j1 kj3 a2 false)) = some r := H
        have A17 := Aside0.mk A170
        clear A170
        have HC18 := Aside0.mk H
        clear H
        have hnb19 := NB258_259.out
        have hnc19 := NB259_258.out
        have hcz20_0 : wc.cell? ⟨gb258, 0, none⟩ = some (.int .i64 a0_0) := (blk_cell BK258.out 0).trans rfl
        have hcz20_1 : wc.cell? ⟨gb258, 1, none⟩ = some (.int .i64 a0_1) := (blk_cell BK258.out 1).trans rfl
        have hcz20_2 : wc.cell? ⟨gb258, 2, none⟩ = some (.int .i64 a0_2) := (blk_cell BK258.out 2).trans rfl
        have hcz20_3 : wc.cell? ⟨gb258, 3, none⟩ = some (.string a0_3) := (blk_cell BK258.out 3).trans rfl
        have hfz20_0 := blk_frozen BK258.out 0
        have hfz20_1 := blk_frozen BK258.out 1
        have hfz20_2 := blk_frozen BK258.out 2
        have hfz20_3 := blk_frozen BK258.out 3
        go_upto_region 5 with (first | ((with_reducible refine gate_callee (f := 9) rfl ?_); refine goesL_ (some 28) rfl rfl Try.func9 (by kernel_rfl) rfl #[.agg #[.int .i64 a0_0, .int .i64 a0_1, .int .i64 a0_2, .string a0_3]] rfl (by (try simp only [List.map_toArray, List.map_cons, List.map_nil]); first | done | rfl | (simp only [List.length_drop, List.length_take]; rfl)) ?_; (with_reducible refine (value_Put.calls kj3 a0_0 a0_1 a0_2 a0_3 t261 t262 _ A16.out).mono ?_); rintro e w21 ⟨rfl, hb⟩; refine ⟨_, rfl, ?_⟩; have n0_ := Aside0.mk (blk_below (g := gb258) (o := .cells #[.int .i64 a0_0, .int .i64 a0_1, .int .i64 a0_2, .string a0_3] 23 (0, 0)) (by (with_reducible repeat (first | refine blk_drewN ?_ _ | refine blk_drew ?_ | refine blk_alloc ?_ _)); exact BK258.out) hb); have n1_ := Aside0.mk (blk_below (g := gb259) (o := .cells #[.int .i64 a1_0, .int .i64 a1_1, .int .i64 a1_2, .string a1_3] 23 (0, 0)) (by (with_reducible repeat (first | refine blk_drewN ?_ _ | refine blk_drew ?_ | refine blk_alloc ?_ _)); exact BK259.out) hb); have n2_ := Aside0.mk (below_step (by repeat (first | (with_reducible first | exact HB.out | apply below_alloc | apply pw_below_drewN | apply below_drew1 | refine below_set ?_ GE258.out | refine below_set ?_ GE259.out) | exact HB.out)) hb); clear BK258; clear BK259; clear HB; have BK258 := n0_; have BK259 := n1_; have HB := n2_; clear n0_ n1_ n2_; (try clear hb); (try clear hb2); (try clear hk); (try clear hi); have hcz22_0 : w21.cell? ⟨gb259, 0, none⟩ = some (.int .i64 a1_0) := (blk_cell BK259.out 0).trans rfl; have hcz22_1 : w21.cell? ⟨gb259, 1, none⟩ = some (.int .i64 a1_1) := (blk_cell BK259.out 1).trans rfl; have hcz22_2 : w21.cell? ⟨gb259, 2, none⟩ = some (.int .i64 a1_2) := (blk_cell BK259.out 2).trans rfl; have hcz22_3 : w21.cell? ⟨gb259, 3, none⟩ = some (.string a1_3) := (blk_cell BK259.out 3).trans rfl; have hfz22_0 := blk_frozen BK259.out 0; have hfz22_1 := blk_frozen BK259.out 1; have hfz22_2 := blk_frozen BK259.out 2; have hfz22_3 := blk_frozen BK259.out 3) | ((with_reducible refine gate_callee (f := 9) rfl ?_); refine goesL_ (some 33) rfl rfl Try.func9 (by kernel_rfl) rfl #[.agg #[.int .i64 a1_0, .int .i64 a1_1, .int .i64 a1_2, .string a1_3]] rfl (by (try simp only [List.map_toArray, List.map_cons, List.map_nil]); first | done | rfl | (simp only [List.length_drop, List.length_take]; rfl)) ?_; (with_reducible refine (value_Put.calls kj3 a1_0 a1_1 a1_2 a1_3 t263 t264 _ A17.out).mono ?_); rintro e w23 ⟨rfl, hb⟩; refine ⟨_, rfl, ?_⟩; have n0_ := Aside0.mk (blk_below (g := gb258) (o := .cells #[.int .i64 a0_0, .int .i64 a0_1, .int .i64 a0_2, .string a0_3] 23 (0, 0)) (by (with_reducible repeat (first | refine blk_drewN ?_ _ | refine blk_drew ?_ | refine blk_alloc ?_ _)); exact BK258.out) hb); have n1_ := Aside0.mk (blk_below (g := gb259) (o := .cells #[.int .i64 a1_0, .int .i64 a1_1, .int .i64 a1_2, .string a1_3] 23 (0, 0)) (by (with_reducible repeat (first | refine blk_drewN ?_ _ | refine blk_drew ?_ | refine blk_alloc ?_ _)); exact BK259.out) hb); have n2_ := Aside0.mk (below_step (by repeat (first | (with_reducible first | exact HB.out | apply below_alloc | apply pw_below_drewN | apply below_drew1 | refine below_set ?_ GE258.out | refine below_set ?_ GE259.out) | exact HB.out)) hb); clear BK258; clear BK259; clear HB; have BK258 := n0_; have BK259 := n1_; have HB := n2_; clear n0_ n1_ n2_; (try clear hb); (try clear hb2); (try clear hk); (try clear hi)))
        (try simp only [Act.put, List.setIfInBounds_toArray, List.set_cons_zero, List.set_cons_succ])
        go_cut [63] (fun v63 wc => ∃ (kq : Nat) (x63_17 : Bool), v63 = .bool x63_17 ∧ Aside0 (rollcalllaw04_ValueApart.j1 kq a2 x63_17 = some r) ∧ Aside0 (kq ≤ kj3) ∧ Aside0 (wc.heap[gb258]? = some (.cells #[.int .i64 a0_0, .int .i64 a0_1, .int .i64 a0_2, .string a0_3] 23 (0, 0))) ∧ Aside0 (wc.heap[gb259]? = some (.cells #[.int .i64 a1_0, .int .i64 a1_1, .int .i64 a1_2, .string a1_3] 23 (0, 0))) ∧ Aside0 (Below w.heap.size w wc))
        case first =>
          have H := HC18.out
          clear HC18
          by_cases c24 : t262 = true
          · subst c24
            have H1 : (if t264 = true then (if ((t261.toList == t263.toList) != (a0_0 == a1_0 && (a0_1 == a1_1 && (a0_2 == a1_2 && (a0_3.toList == a1_3.toList))))) = true then (rollcalllaw04_ValueApart.j1 kj3 a2 true) else (if (t261.size : Int) < (t263.size : Int) then (if 0 ≤ (t261.size : Int) then (if (t261.size : Int) ≤ (t263.size : Int) then (rollcalllaw04_ValueApart.j1 kj3 a2 ((t263.extract 0 t261.size).toList == t261.toList)) else (none)) else (none)) else (rollcalllaw04_ValueApart.j1 kj3 a2 false))) else (rollcalllaw04_ValueApart.j1 kj3 a2 false)) = some r := by rw [if_pos rfl] at H; exact H
            clear H
            have H := H1
            clear H1
            by_cases c25 : t264 = true
            · subst c25
              have H1 : (if ((t261.toList == t263.toList) != (a0_0 == a1_0 && (a0_1 == a1_1 && (a0_2 == a1_2 && (a0_3.toList == a1_3.toList))))) = true then (rollcalllaw04_ValueApart.j1 kj3 a2 true) else (if (t261.size : Int) < (t263.size : Int) then (if 0 ≤ (t261.size : Int) then (if (t261.size : Int) ≤ (t263.size : Int) then (rollcalllaw04_ValueApart.j1 kj3 a2 ((t263.extract 0 t261.size).toList == t261.toList)) else (none)) else (none)) else (rollcalllaw04_ValueApart.j1 kj3 a2 false))) = some r := by rw [if_pos rfl] at H; exact H
              clear H
              have H := H1
              clear H1
              by_cases c26 : ((t261.toList == t263.toList) != (a0_0 == a1_0 && (a0_1 == a1_1 && (a0_2 == a1_2 && (a0_3.toList == a1_3.toList))))) = true
              · rw [if_pos c26] at H
                have c26b0 : ((t261.toList == t263.toList) != (a0_0 == a1_0 && (a0_1 == a1_1 && (a0_2 == a1_2 && (a0_3.toList == a1_3.toList))))) = true := c26
                (try (have c26b1 : decide ((t261.toList == t263.toList) = (a0_0 == a1_0 && (a0_1 == a1_1 && (a0_2 == a1_2 && (a0_3.toList == a1_3.toList))))) = false := by simpa using c26))
                (try (have c26b2 : ((t261.toList == t263.toList) == (a0_0 == a1_0 && (a0_1 == a1_1 && (a0_2 == a1_2 && (a0_3.toList == a1_3.toList))))) = false := by simpa using c26))
                (try (have c26b3 : ¬ ((t261.toList == t263.toList) = (a0_0 == a1_0 && (a0_1 == a1_1 && (a0_2 == a1_2 && (a0_3.toList == a1_3.toList))))) := by simpa using c26))
                clear c26
                (first | rw [c26b0] | (simp only [i64_w, i32_w]; rw [c26b0]) | skip)
                have H' := Aside0.mk H
                clear H
                have hnb27 := NB258_259.out
                have hnc27 := NB259_258.out
                have hcz28_0 : w23.cell? ⟨gb258, 0, none⟩ = some (.int .i64 a0_0) := (blk_cell BK258.out 0).trans rfl
                have hcz28_1 : w23.cell? ⟨gb258, 1, none⟩ = some (.int .i64 a0_1) := (blk_cell BK258.out 1).trans rfl
                have hcz28_2 : w23.cell? ⟨gb258, 2, none⟩ = some (.int .i64 a0_2) := (blk_cell BK258.out 2).trans rfl
                have hcz28_3 : w23.cell? ⟨gb258, 3, none⟩ = some (.string a0_3) := (blk_cell BK258.out 3).trans rfl
                have hfz28_0 := blk_frozen BK258.out 0
                have hfz28_1 := blk_frozen BK258.out 1
                have hfz28_2 := blk_frozen BK258.out 2
                have hfz28_3 := blk_frozen BK258.out 3
                have hcz29_0 : w23.cell? ⟨gb259, 0, none⟩ = some (.int .i64 a1_0) := (blk_cell BK259.out 0).trans rfl
                have hcz29_1 : w23.cell? ⟨gb259, 1, none⟩ = some (.int .i64 a1_1) := (blk_cell BK259.out 1).trans rfl
                have hcz29_2 : w23.cell? ⟨gb259, 2, none⟩ = some (.int .i64 a1_2) := (blk_cell BK259.out 2).trans rfl
                have hcz29_3 : w23.cell? ⟨gb259, 3, none⟩ = some (.string a1_3) := (blk_cell BK259.out 3).trans rfl
                have hfz29_0 := blk_frozen BK259.out 0
                have hfz29_1 := blk_frozen BK259.out 1
                have hfz29_2 := blk_frozen BK259.out 2
                have hfz29_3 := blk_frozen BK259.out 3
                go_wp2
                go_meet
                case rel => exact ⟨_, (true), (by first | rfl | (simp; done) | (simp [*]; done)), H', ⟨by have := HJ3.out; first | omega | exact Nat.le_refl _⟩, ⟨by (with_reducible repeat (first | refine blk_drewN ?_ _ | refine blk_drew ?_ | refine blk_alloc ?_ _)); exact BK258.out⟩, ⟨by (with_reducible repeat (first | refine blk_drewN ?_ _ | refine blk_drew ?_ | refine blk_alloc ?_ _)); exact BK259.out⟩, ⟨by repeat (first | (with_reducible first | exact HB.out | apply below_alloc | apply pw_below_drewN | apply below_drew1 | refine below_set ?_ GE258.out | refine below_set ?_ GE259.out) | exact HB.out)⟩⟩
              · rw [if_neg c26] at H
                have c26b0 : ((t261.toList == t263.toList) != (a0_0 == a1_0 && (a0_1 == a1_1 && (a0_2 == a1_2 && (a0_3.toList == a1_3.toList))))) = false := by simpa using c26
                (try (have c26b1 : decide ((t261.toList == t263.toList) = (a0_0 == a1_0 && (a0_1 == a1_1 && (a0_2 == a1_2 && (a0_3.toList == a1_3.toList))))) = true := by simpa using c26))
                (try (have c26b2 : ((t261.toList == t263.toList) == (a0_0 == a1_0 && (a0_1 == a1_1 && (a0_2 == a1_2 && (a0_3.toList == a1_3.toList))))) = true := by simpa using c26))
                clear c26
                (first | rw [c26b0] | (simp only [i64_w, i32_w]; rw [c26b0]) | skip)
                by_cases c30 : (t261.size : Int) < (t263.size : Int)
                · rw [if_pos c30] at H
                  have c30b0 : decide ((t261.size : Int) < (t263.size : Int)) = true := decide_eq_true c30
                  have c30b1 : decide (t261.size < t263.size) = true := decide_eq_true (Int.ofNat_lt.mp c30)
                  clear c30
                  by_cases c31 : 0 ≤ (t261.size : Int)
                  · rw [if_pos c31] at H
                    have c31b0 := eq_true c31
                    have c31b1 : decide (0 ≤ (t261.size : Int)) = true := decide_eq_true c31
                    clear c31
                    by_cases c32 : (t261.size : Int) ≤ (t263.size : Int)
                    · rw [if_pos c32] at H
                      have c32b0 := eq_true c32
                      have c32b1 : decide ((t261.size : Int) ≤ (t263.size : Int)) = true := decide_eq_true c32
                      clear c32
                      have H' := Aside0.mk H
                      clear H
                      have hnb33 := NB258_259.out
                      have hnc33 := NB259_258.out
                      have hcz34_0 : w23.cell? ⟨gb258, 0, none⟩ = some (.int .i64 a0_0) := (blk_cell BK258.out 0).trans rfl
                      have hcz34_1 : w23.cell? ⟨gb258, 1, none⟩ = some (.int .i64 a0_1) := (blk_cell BK258.out 1).trans rfl
                      have hcz34_2 : w23.cell? ⟨gb258, 2, none⟩ = some (.int .i64 a0_2) := (blk_cell BK258.out 2).trans rfl
                      have hcz34_3 : w23.cell? ⟨gb258, 3, none⟩ = some (.string a0_3) := (blk_cell BK258.out 3).trans rfl
                      have hfz34_0 := blk_frozen BK258.out 0
                      have hfz34_1 := blk_frozen BK258.out 1
                      have hfz34_2 := blk_frozen BK258.out 2
                      have hfz34_3 := blk_frozen BK258.out 3
                      have hcz35_0 : w23.cell? ⟨gb259, 0, none⟩ = some (.int .i64 a1_0) := (blk_cell BK259.out 0).trans rfl
                      have hcz35_1 : w23.cell? ⟨gb259, 1, none⟩ = some (.int .i64 a1_1) := (blk_cell BK259.out 1).trans rfl
                      have hcz35_2 : w23.cell? ⟨gb259, 2, none⟩ = some (.int .i64 a1_2) := (blk_cell BK259.out 2).trans rfl
                      have hcz35_3 : w23.cell? ⟨gb259, 3, none⟩ = some (.string a1_3) := (blk_cell BK259.out 3).trans rfl
                      have hfz35_0 := blk_frozen BK259.out 0
                      have hfz35_1 := blk_frozen BK259.out 1
                      have hfz35_2 := blk_frozen BK259.out 2
                      have hfz35_3 := blk_frozen BK259.out 3
                      go_wp2
                      go_meet
                      case rel => exact ⟨_, (((t263.extract 0 t261.size).toList == t261.toList)), (by first | rfl | (simp; done) | (simp [*]; done)), H', ⟨by have := HJ3.out; first | omega | exact Nat.le_refl _⟩, ⟨by (with_reducible repeat (first | refine blk_drewN ?_ _ | refine blk_drew ?_ | refine blk_alloc ?_ _)); exact BK258.out⟩, ⟨by (with_reducible repeat (first | refine blk_drewN ?_ _ | refine blk_drew ?_ | refine blk_alloc ?_ _)); exact BK259.out⟩, ⟨by repeat (first | (with_reducible first | exact HB.out | apply below_alloc | apply pw_below_drewN | apply below_drew1 | refine below_set ?_ GE258.out | refine below_set ?_ GE259.out) | exact HB.out)⟩⟩
                    · rw [if_neg c32] at H
                      exact absurd H (by simp)
                  · rw [if_neg c31] at H
                    exact absurd H (by simp)
                · rw [if_neg c30] at H
                  have c30b0 : decide ((t261.size : Int) < (t263.size : Int)) = false := decide_eq_false c30
                  have c30b1 : decide (t261.size < t263.size) = false := decide_eq_false (fun h => c30 (Int.ofNat_lt.mpr h))
                  clear c30
                  have H' := Aside0.mk H
                  clear H
                  have hnb36 := NB258_259.out
                  have hnc36 := NB259_258.out
                  have hcz37_0 : w23.cell? ⟨gb258, 0, none⟩ = some (.int .i64 a0_0) := (blk_cell BK258.out 0).trans rfl
                  have hcz37_1 : w23.cell? ⟨gb258, 1, none⟩ = some (.int .i64 a0_1) := (blk_cell BK258.out 1).trans rfl
                  have hcz37_2 : w23.cell? ⟨gb258, 2, none⟩ = some (.int .i64 a0_2) := (blk_cell BK258.out 2).trans rfl
                  have hcz37_3 : w23.cell? ⟨gb258, 3, none⟩ = some (.string a0_3) := (blk_cell BK258.out 3).trans rfl
                  have hfz37_0 := blk_frozen BK258.out 0
                  have hfz37_1 := blk_frozen BK258.out 1
                  have hfz37_2 := blk_frozen BK258.out 2
                  have hfz37_3 := blk_frozen BK258.out 3
                  have hcz38_0 : w23.cell? ⟨gb259, 0, none⟩ = some (.int .i64 a1_0) := (blk_cell BK259.out 0).trans rfl
                  have hcz38_1 : w23.cell? ⟨gb259, 1, none⟩ = some (.int .i64 a1_1) := (blk_cell BK259.out 1).trans rfl
                  have hcz38_2 : w23.cell? ⟨gb259, 2, none⟩ = some (.int .i64 a1_2) := (blk_cell BK259.out 2).trans rfl
                  have hcz38_3 : w23.cell? ⟨gb259, 3, none⟩ = some (.string a1_3) := (blk_cell BK259.out 3).trans rfl
                  have hfz38_0 := blk_frozen BK259.out 0
                  have hfz38_1 := blk_frozen BK259.out 1
                  have hfz38_2 := blk_frozen BK259.out 2
                  have hfz38_3 := blk_frozen BK259.out 3
                  go_wp2
                  go_meet
                  case rel => exact ⟨_, (false), (by first | rfl | (simp; done) | (simp [*]; done)), H', ⟨by have := HJ3.out; first | omega | exact Nat.le_refl _⟩, ⟨by (with_reducible repeat (first | refine blk_drewN ?_ _ | refine blk_drew ?_ | refine blk_alloc ?_ _)); exact BK258.out⟩, ⟨by (with_reducible repeat (first | refine blk_drewN ?_ _ | refine blk_drew ?_ | refine blk_alloc ?_ _)); exact BK259.out⟩, ⟨by repeat (first | (with_reducible first | exact HB.out | apply below_alloc | apply pw_below_drewN | apply below_drew1 | refine below_set ?_ GE258.out | refine below_set ?_ GE259.out) | exact HB.out)⟩⟩
            · replace c25 := Bool.eq_false_iff.mpr c25
              subst c25
              have H1 : (rollcalllaw04_ValueApart.j1 kj3 a2 false) = some r := by rw [if_neg (show ¬ (false = true) by decide)] at H; exact H
              clear H
              have H := H1
              clear H1
              have H' := Aside0.mk H
              clear H
              go_wp2
              go_meet
              case rel => exact ⟨_, (false), (by first | rfl | (simp; done) | (simp [*]; done)), H', ⟨by have := HJ3.out; first | omega | exact Nat.le_refl _⟩, ⟨by (with_reducible repeat (first | refine blk_drewN ?_ _ | refine blk_drew ?_ | refine blk_alloc ?_ _)); exact BK258.out⟩, ⟨by (with_reducible repeat (first | refine blk_drewN ?_ _ | refine blk_drew ?_ | refine blk_alloc ?_ _)); exact BK259.out⟩, ⟨by repeat (first | (with_reducible first | exact HB.out | apply below_alloc | apply pw_below_drewN | apply below_drew1 | refine below_set ?_ GE258.out | refine below_set ?_ GE259.out) | exact HB.out)⟩⟩
          · replace c24 := Bool.eq_false_iff.mpr c24
            subst c24
            have H1 : (rollcalllaw04_ValueApart.j1 kj3 a2 false) = some r := by rw [if_neg (show ¬ (false = true) by decide)] at H; exact H
            clear H
            have H := H1
            clear H1
            have H' := Aside0.mk H
            clear H
            go_wp2
            go_meet
            case rel => exact ⟨_, (false), (by first | rfl | (simp; done) | (simp [*]; done)), H', ⟨by have := HJ3.out; first | omega | exact Nat.le_refl _⟩, ⟨by (with_reducible repeat (first | refine blk_drewN ?_ _ | refine blk_drew ?_ | refine blk_alloc ?_ _)); exact BK258.out⟩, ⟨by (with_reducible repeat (first | refine blk_drewN ?_ _ | refine blk_drew ?_ | refine blk_alloc ?_ _)); exact BK259.out⟩, ⟨by repeat (first | (with_reducible first | exact HB.out | apply below_alloc | apply pw_below_drewN | apply below_drew1 | refine below_set ?_ GE258.out | refine below_set ?_ GE259.out) | exact HB.out)⟩⟩
        case rest =>
          clear HC18
          try clear c1
          try clear c2
          try clear p2
          try clear c3
          try clear c6
          try clear c7
          try clear c7b0
          try clear c7b1
          try clear c8
          try clear c9
          try clear c10
          try clear c13
          try clear c19
          try clear c24
          try clear c25
          try clear c26
          try clear c26b0
          try clear c26b1
          try clear c26b2
          try clear c27
          try clear c30
          try clear c30b0
          try clear c30b1
          try clear c31
          try clear c31b0
          try clear c31b1
          try clear c32
          try clear c32b0
          try clear c32b1
          try clear c33
          try clear c36
          try clear hcz11_0
          try clear hcz11_1
          try clear hcz11_2
          try clear hcz11_3
          try clear hcz12_0
          try clear hcz12_1
          try clear hcz12_2
          try clear hcz12_3
          try clear hcz20_0
          try clear hcz20_1
          try clear hcz20_2
          try clear hcz20_3
          try clear hcz22_0
          try clear hcz22_1
          try clear hcz22_2
          try clear hcz22_3
          try clear hcz28_0
          try clear hcz28_1
          try clear hcz28_2
          try clear hcz28_3
          try clear hcz29_0
          try clear hcz29_1
          try clear hcz29_2
          try clear hcz29_3
          try clear hcz34_0
          try clear hcz34_1
          try clear hcz34_2
          try clear hcz34_3
          try clear hcz35_0
          try clear hcz35_1
          try clear hcz35_2
          try clear hcz35_3
          try clear hcz37_0
          try clear hcz37_1
          try clear hcz37_2
          try clear hcz37_3
          try clear hcz38_0
          try clear hcz38_1
          try clear hcz38_2
          try clear hcz38_3
          try clear hcz9_0
          try clear hcz9_1
          try clear hcz9_2
          try clear hcz9_3
          try clear hfz11_0
          try clear hfz11_1
          try clear hfz11_2
          try clear hfz11_3
          try clear hfz12_0
          try clear hfz12_1
          try clear hfz12_2
          try clear hfz12_3
          try clear hfz20_0
          try clear hfz20_1
          try clear hfz20_2
          try clear hfz20_3
          try clear hfz22_0
          try clear hfz22_1
          try clear hfz22_2
          try clear hfz22_3
          try clear hfz28_0
          try clear hfz28_1
          try clear hfz28_2
          try clear hfz28_3
          try clear hfz29_0
          try clear hfz29_1
          try clear hfz29_2
          try clear hfz29_3
          try clear hfz34_0
          try clear hfz34_1
          try clear hfz34_2
          try clear hfz34_3
          try clear hfz35_0
          try clear hfz35_1
          try clear hfz35_2
          try clear hfz35_3
          try clear hfz37_0
          try clear hfz37_1
          try clear hfz37_2
          try clear hfz37_3
          try clear hfz38_0
          try clear hfz38_1
          try clear hfz38_2
          try clear hfz38_3
          try clear hfz9_0
          try clear hfz9_1
          try clear hfz9_2
          try clear hfz9_3
          try clear p2
          obtain ⟨kq, x63_17, rfl, HA, HJ17, BK258, BK259, HB⟩ := hcut
          cases kq with
          | zero => exact absurd HA.out (by simp [rollcalllaw04_ValueApart.j1])
          | succ kj17 =>
            have H := HA.out
            clear HA
            simp only [rollcalllaw04_ValueApart.j1] at H
            by_cases c39 : x63_17 = true
            · subst c39
              have H1 : (some false) = some r := by rw [if_pos rfl] at H; exact H
              clear H
              have H := H1
              clear H1
              exact absurd ((Option.some.inj H).trans HT.out) (by simp)
            · replace c39 := Bool.eq_false_iff.mpr c39
              subst c39
              have H1 : ((value_Say.f a2).bind fun bt265 => ((value_Hear.f bt265.1).bind fun bt267 => (if bt265.2 = true then (if bt267.2 = true then (if bt267.1 = a2 then ((rollcalllaw04_live.f kj17).bind fun t269 => (some t269)) else (some false)) else (some false)) else (if bt265.1.toList = ([] : List UInt8) then (if bt267.2 = true then (some false) else ((rollcalllaw04_live.f kj17).bind fun t270 => (some t270))) else (some false))))) = some r := by rw [if_neg (show ¬ (false = true) by decide)] at H; exact H
              clear H
              have H := H1
              clear H1
              replace H := Option.bind_eq_some_iff.mp H
              obtain ⟨⟨t265, t266⟩, A400, H⟩ := H
              replace H : ((value_Hear.f t265).bind fun bt267 => (if t266 = true then (if bt267.2 = true then (if bt267.1 = a2 then ((rollcalllaw04_live.f kj17).bind fun t269 => (some t269)) else (some false)) else (some false)) else (if t265.toList = ([] : List UInt8) then (if bt267.2 = true then (some false) else ((rollcalllaw04_live.f kj17).bind fun t270 => (some t270))) else (some false)))) = some r := H
              have A40 := Aside0.mk A400
              clear A400
              replace H := Option.bind_eq_some_iff.mp H
              obtain ⟨⟨t267, t268⟩, A410, H⟩ := H
              replace H : (if t266 = true then (if t268 = true then (if t267 = a2 then ((rollcalllaw04_live.f kj17).bind fun t269 => (some t269)) else (some false)) else (some false)) else (if t265.toList = ([] : List UInt8) then (if t268 = true then (some false) else ((rollcalllaw04_live.f kj17).bind fun t270 => (some t270))) else (some false))) = some r := H
              have A41 := Aside0.mk A410
              clear A410
              by_cases c42 : t266 = true
              · subst c42
                have H1 : (if t268 = true then (if t267 = a2 then ((rollcalllaw04_live.f kj17).bind fun t269 => (some t269)) else (some false)) else (some false)) = some r := by rw [if_pos rfl] at H; exact H
                clear H
                have H := H1
                clear H1
                by_cases c43 : t268 = true
                · subst c43
                  have H1 : (if t267 = a2 then ((rollcalllaw04_live.f kj17).bind fun t269 => (some t269)) else (some false)) = some r := by rw [if_pos rfl] at H; exact H
                  clear H
                  have H := H1
                  clear H1
                  by_cases c44 : t267 = a2
                  · rw [if_pos c44] at H
                    have c44b0 : (t267 == a2) = true := beq_iff_eq.mpr c44
                    have c44b1 : (t267 != a2) = false := bne_eq_false_iff_eq.mpr c44
                    clear c44
                    replace H := Option.bind_eq_some_iff.mp H
                    obtain ⟨t269, A450, H⟩ := H
                    replace H : (some t269) = some r := H
                    have A45 := Aside0.mk A450
                    clear A450
                    obtain rfl := Option.some.inj H
                    go_wp2_with (first | ((with_reducible refine gate_callee (f := 11) rfl ?_); refine goesL_ (some 66) rfl rfl Try.func11 (by kernel_rfl) rfl #[.int .i64 a2] rfl (by (try simp only [List.map_toArray, List.map_cons, List.map_nil]); first | done | rfl | (simp only [List.length_drop, List.length_take]; rfl)) ?_; (with_reducible refine (value_Say.calls a2 t265 true _ A40.out).mono ?_); rintro e w46 ⟨rfl, hb⟩; refine ⟨_, rfl, ?_⟩; have n0_ := Aside0.mk (blk_below (g := gb258) (o := .cells #[.int .i64 a0_0, .int .i64 a0_1, .int .i64 a0_2, .string a0_3] 23 (0, 0)) (by (with_reducible repeat (first | refine blk_drewN ?_ _ | refine blk_drew ?_ | refine blk_alloc ?_ _)); exact BK258.out) hb); have n1_ := Aside0.mk (blk_below (g := gb259) (o := .cells #[.int .i64 a1_0, .int .i64 a1_1, .int .i64 a1_2, .string a1_3] 23 (0, 0)) (by (with_reducible repeat (first | refine blk_drewN ?_ _ | refine blk_drew ?_ | refine blk_alloc ?_ _)); exact BK259.out) hb); have n2_ := Aside0.mk (below_step (by repeat (first | (with_reducible first | exact HB.out | apply below_alloc | apply pw_below_drewN | apply below_drew1 | refine below_set ?_ GE258.out | refine below_set ?_ GE259.out) | exact HB.out)) hb); clear BK258; clear BK259; clear HB; have BK258 := n0_; have BK259 := n1_; have HB := n2_; clear n0_ n1_ n2_; (try clear hb); (try clear hb2); (try clear hk); (try clear hi)) | ((with_reducible refine gate_callee (f := 13) rfl ?_); refine goesL_ (some 71) rfl rfl Try.func13 (by kernel_rfl) rfl #[.string t265] rfl (by (try simp only [List.map_toArray, List.map_cons, List.map_nil]); first | done | rfl | (simp only [List.length_drop, List.length_take]; rfl)) ?_; (with_reducible refine (value_Hear.calls t265 t267 true _ A41.out).mono ?_); rintro e w47 ⟨rfl, hb⟩; refine ⟨_, rfl, ?_⟩; have n0_ := Aside0.mk (blk_below (g := gb258) (o := .cells #[.int .i64 a0_0, .int .i64 a0_1, .int .i64 a0_2, .string a0_3] 23 (0, 0)) (by (with_reducible repeat (first | refine blk_drewN ?_ _ | refine blk_drew ?_ | refine blk_alloc ?_ _)); exact BK258.out) hb); have n1_ := Aside0.mk (blk_below (g := gb259) (o := .cells #[.int .i64 a1_0, .int .i64 a1_1, .int .i64 a1_2, .string a1_3] 23 (0, 0)) (by (with_reducible repeat (first | refine blk_drewN ?_ _ | refine blk_drew ?_ | refine blk_alloc ?_ _)); exact BK259.out) hb); have n2_ := Aside0.mk (below_step (by repeat (first | (with_reducible first | exact HB.out | apply below_alloc | apply pw_below_drewN | apply below_drew1 | refine below_set ?_ GE258.out | refine below_set ?_ GE259.out) | exact HB.out)) hb); clear BK258; clear BK259; clear HB; have BK258 := n0_; have BK259 := n1_; have HB := n2_; clear n0_ n1_ n2_; (try clear hb); (try clear hb2); (try clear hk); (try clear hi)) | (go_at_call 8; (with_reducible refine (rollcalllaw04_live.calls kj17  t269 _ A45.out).mono ?_); rintro e w48 ⟨rfl, hb⟩; have n0_ := Aside0.mk (blk_below (g := gb258) (o := .cells #[.int .i64 a0_0, .int .i64 a0_1, .int .i64 a0_2, .string a0_3] 23 (0, 0)) (by (with_reducible repeat (first | refine blk_drewN ?_ _ | refine blk_drew ?_ | refine blk_alloc ?_ _)); exact BK258.out) hb); have n1_ := Aside0.mk (blk_below (g := gb259) (o := .cells #[.int .i64 a1_0, .int .i64 a1_1, .int .i64 a1_2, .string a1_3] 23 (0, 0)) (by (with_reducible repeat (first | refine blk_drewN ?_ _ | refine blk_drew ?_ | refine blk_alloc ?_ _)); exact BK259.out) hb); have n2_ := Aside0.mk (below_step (by repeat (first | (with_reducible first | exact HB.out | apply below_alloc | apply pw_below_drewN | apply below_drew1 | refine below_set ?_ GE258.out | refine below_set ?_ GE259.out) | exact HB.out)) hb); clear BK258; clear BK259; clear HB; have BK258 := n0_; have BK259 := n1_; have HB := n2_; clear n0_ n1_ n2_; (try clear hb); (try clear hb2); (try clear hk); (try clear hi)))
                    go_ret
                    exact ⟨by first | rfl | (simp [errW_none, errW_some] <;> rfl) | (simp [*, errW_none, errW_some] <;> rfl), by repeat (first | (with_reducible first | exact HB.out | apply below_alloc | apply pw_below_drewN | apply below_drew1 | refine below_set ?_ GE258.out | refine below_set ?_ GE259.out) | exact HB.out)⟩
                  · rw [if_neg c44] at H
                    have c44b0 : (t267 == a2) = false := beq_eq_false_iff_ne.mpr c44
                    have c44b1 : (t267 != a2) = true := bne_iff_ne.mpr c44
                    exact absurd ((Option.some.inj H).trans HT.out) (by simp)
                · replace c43 := Bool.eq_false_iff.mpr c43
                  subst c43
                  have H1 : (some false) = some r := by rw [if_neg (show ¬ (false = true) by decide)] at H; exact H
                  clear H
                  have H := H1
                  clear H1
                  exact absurd ((Option.some.inj H).trans HT.out) (by simp)
              · replace c42 := Bool.eq_false_iff.mpr c42
                subst c42
                have H1 : (if t265.toList = ([] : List UInt8) then (if t268 = true then (some false) else ((rollcalllaw04_live.f kj17).bind fun t270 => (some t270))) else (some false)) = some r := by rw [if_neg (show ¬ (false = true) by decide)] at H; exact H
                clear H
                have H := H1
                clear H1
                by_cases c49 : t265.toList = ([] : List UInt8)
                · rw [if_pos c49] at H
                  have c49b0 : (t265.toList == ([] : List UInt8)) = true := beq_iff_eq.mpr c49
                  have c49b1 : (t265.toList != ([] : List UInt8)) = false := bne_eq_false_iff_eq.mpr c49
                  clear c49
                  by_cases c50 : t268 = true
                  · subst c50
                    have H1 : (some false) = some r := by rw [if_pos rfl] at H; exact H
                    clear H
                    have H := H1
                    clear H1
                    exact absurd ((Option.some.inj H).trans HT.out) (by simp)
                  · replace c50 := Bool.eq_false_iff.mpr c50
                    subst c50
                    have H1 : ((rollcalllaw04_live.f kj17).bind fun t270 => (some t270)) = some r := by rw [if_neg (show ¬ (false = true) by decide)] at H; exact H
                    clear H
                    have H := H1
                    clear H1
                    replace H := Option.bind_eq_some_iff.mp H
                    obtain ⟨t270, A510, H⟩ := H
                    replace H : (some t270) = some r := H
                    have A51 := Aside0.mk A510
                    clear A510
                    obtain rfl := Option.some.inj H
                    go_wp2_with (first | ((with_reducible refine gate_callee (f := 11) rfl ?_); refine goesL_ (some 66) rfl rfl Try.func11 (by kernel_rfl) rfl #[.int .i64 a2] rfl (by (try simp only [List.map_toArray, List.map_cons, List.map_nil]); first | done | rfl | (simp only [List.length_drop, List.length_take]; rfl)) ?_; (with_reducible refine (value_Say.calls a2 t265 false _ A40.out).mono ?_); rintro e w52 ⟨rfl, hb⟩; refine ⟨_, rfl, ?_⟩; have n0_ := Aside0.mk (blk_below (g := gb258) (o := .cells #[.int .i64 a0_0, .int .i64 a0_1, .int .i64 a0_2, .string a0_3] 23 (0, 0)) (by (with_reducible repeat (first | refine blk_drewN ?_ _ | refine blk_drew ?_ | refine blk_alloc ?_ _)); exact BK258.out) hb); have n1_ := Aside0.mk (blk_below (g := gb259) (o := .cells #[.int .i64 a1_0, .int .i64 a1_1, .int .i64 a1_2, .string a1_3] 23 (0, 0)) (by (with_reducible repeat (first | refine blk_drewN ?_ _ | refine blk_drew ?_ | refine blk_alloc ?_ _)); exact BK259.out) hb); have n2_ := Aside0.mk (below_step (by repeat (first | (with_reducible first | exact HB.out | apply below_alloc | apply pw_below_drewN | apply below_drew1 | refine below_set ?_ GE258.out | refine below_set ?_ GE259.out) | exact HB.out)) hb); clear BK258; clear BK259; clear HB; have BK258 := n0_; have BK259 := n1_; have HB := n2_; clear n0_ n1_ n2_; (try clear hb); (try clear hb2); (try clear hk); (try clear hi)) | ((with_reducible refine gate_callee (f := 13) rfl ?_); refine goesL_ (some 71) rfl rfl Try.func13 (by kernel_rfl) rfl #[.string t265] rfl (by (try simp only [List.map_toArray, List.map_cons, List.map_nil]); first | done | rfl | (simp only [List.length_drop, List.length_take]; rfl)) ?_; (with_reducible refine (value_Hear.calls t265 t267 false _ A41.out).mono ?_); rintro e w53 ⟨rfl, hb⟩; refine ⟨_, rfl, ?_⟩; have n0_ := Aside0.mk (blk_below (g := gb258) (o := .cells #[.int .i64 a0_0, .int .i64 a0_1, .int .i64 a0_2, .string a0_3] 23 (0, 0)) (by (with_reducible repeat (first | refine blk_drewN ?_ _ | refine blk_drew ?_ | refine blk_alloc ?_ _)); exact BK258.out) hb); have n1_ := Aside0.mk (blk_below (g := gb259) (o := .cells #[.int .i64 a1_0, .int .i64 a1_1, .int .i64 a1_2, .string a1_3] 23 (0, 0)) (by (with_reducible repeat (first | refine blk_drewN ?_ _ | refine blk_drew ?_ | refine blk_alloc ?_ _)); exact BK259.out) hb); have n2_ := Aside0.mk (below_step (by repeat (first | (with_reducible first | exact HB.out | apply below_alloc | apply pw_below_drewN | apply below_drew1 | refine below_set ?_ GE258.out | refine below_set ?_ GE259.out) | exact HB.out)) hb); clear BK258; clear BK259; clear HB; have BK258 := n0_; have BK259 := n1_; have HB := n2_; clear n0_ n1_ n2_; (try clear hb); (try clear hb2); (try clear hk); (try clear hi)) | (go_at_call 8; (with_reducible refine (rollcalllaw04_live.calls kj17  t270 _ A51.out).mono ?_); rintro e w54 ⟨rfl, hb⟩; have n0_ := Aside0.mk (blk_below (g := gb258) (o := .cells #[.int .i64 a0_0, .int .i64 a0_1, .int .i64 a0_2, .string a0_3] 23 (0, 0)) (by (with_reducible repeat (first | refine blk_drewN ?_ _ | refine blk_drew ?_ | refine blk_alloc ?_ _)); exact BK258.out) hb); have n1_ := Aside0.mk (blk_below (g := gb259) (o := .cells #[.int .i64 a1_0, .int .i64 a1_1, .int .i64 a1_2, .string a1_3] 23 (0, 0)) (by (with_reducible repeat (first | refine blk_drewN ?_ _ | refine blk_drew ?_ | refine blk_alloc ?_ _)); exact BK259.out) hb); have n2_ := Aside0.mk (below_step (by repeat (first | (with_reducible first | exact HB.out | apply below_alloc | apply pw_below_drewN | apply below_drew1 | refine below_set ?_ GE258.out | refine below_set ?_ GE259.out) | exact HB.out)) hb); clear BK258; clear BK259; clear HB; have BK258 := n0_; have BK259 := n1_; have HB := n2_; clear n0_ n1_ n2_; (try clear hb); (try clear hb2); (try clear hk); (try clear hi)))
                    go_ret
                    exact ⟨by first | rfl | (simp [errW_none, errW_some] <;> rfl) | (simp [*, errW_none, errW_some] <;> rfl), by repeat (first | (with_reducible first | exact HB.out | apply below_alloc | apply pw_below_drewN | apply below_drew1 | refine below_set ?_ GE258.out | refine below_set ?_ GE259.out) | exact HB.out)⟩
                · rw [if_neg c49] at H
                  have c49b0 : (t265.toList == ([] : List UInt8)) = false := beq_eq_false_iff_ne.mpr c49
                  have c49b1 : (t265.toList != ([] : List UInt8)) = true := bne_iff_ne.mpr c49
                  exact absurd ((Option.some.inj H).trans HT.out) (by simp)

/-- THE PURE STATEMENT of rollcalllaw04_ValueApart. -/
def rollcalllaw04_ValueApart.Pure : Prop := ∀ (a0_0 : Int) (a0_1 : Int) (a0_2 : Int) (a0_3 : ByteArray) (a1_0 : Int) (a1_1 : Int) (a1_2 : Int) (a1_3 : ByteArray) (a2 : Int), (Lit.int .i64 a0_0).wf = true → (Lit.int .i64 a0_1).wf = true → (Lit.int .i64 a0_2).wf = true → a0_3.size ≤ maxLen → (Lit.int .i64 a1_0).wf = true → (Lit.int .i64 a1_1).wf = true → (Lit.int .i64 a1_2).wf = true → a1_3.size ≤ maxLen → (Lit.int .i64 a2).wf = true → ∃ k, rollcalllaw04_ValueApart.f k a0_0 a0_1 a0_2 a0_3 a1_0 a1_1 a1_2 a1_3 a2 = some true
theorem rollcalllaw04_ValueApart.walkx (P : rollcalllaw04_ValueApart.Pure) (a0_0 : Int) (a0_1 : Int) (a0_2 : Int) (a0_3 : ByteArray) (a1_0 : Int) (a1_1 : Int) (a1_2 : Int) (a1_3 : ByteArray) (a2 : Int) (w : World) (q0 : (Lit.int .i64 a0_0).wf = true) (q1 : (Lit.int .i64 a0_1).wf = true) (q2 : (Lit.int .i64 a0_2).wf = true) (q3 : a0_3.size ≤ maxLen) (q4 : (Lit.int .i64 a1_0).wf = true) (q5 : (Lit.int .i64 a1_1).wf = true) (q6 : (Lit.int .i64 a1_2).wf = true) (q7 : a1_3.size ≤ maxLen) (q8 : (Lit.int .i64 a2).wf = true) :
    Calls Try.prog 6 #[.agg #[.int .i64 a0_0, .int .i64 a0_1, .int .i64 a0_2, .string a0_3], .agg #[.int .i64 a1_0, .int .i64 a1_1, .int .i64 a1_2, .string a1_3], .int .i64 a2] w fun e w' => e = .returned (.bool true) ∧ Below w.heap.size w w' := by
  obtain ⟨k, h⟩ := P a0_0 a0_1 a0_2 a0_3 a1_0 a1_1 a1_2 a1_3 a2 q0 q1 q2 q3 q4 q5 q6 q7 q8
  refine (rollcalllaw04_ValueApart.calls k a0_0 a0_1 a0_2 a0_3 a1_0 a1_1 a1_2 a1_3 a2 true rfl w h).mono ?_
  rintro e w' ⟨rfl, hd⟩
  exact ⟨rfl, hd⟩

/-! ### rollcallref01_Size: function 19 -/
def rollcallref01_Size.f (k : Nat) (a0 : Int) : Option (Int) := (rollcallref01_Put.f k a0).bind fun t271 => (some (t271.size : Int))
theorem rollcallref01_Size.mono : ∀ a0 k, LeO (rollcallref01_Size.f k a0) (rollcallref01_Size.f (k + 1) a0) := by
  intro a0 k
  unfold rollcallref01_Size.f
  repeat' first
      | (with_reducible exact rollcallref01_Put.mono _ _)
      | (with_reducible exact LeO.refl _)
      | (with_reducible exact LeO.none _)
      | (with_reducible refine LeO.ite ?_ ?_)
      | (with_reducible refine LeO.bind ?_ (fun _ => ?_))
      | exact rollcallref01_Put.mono _ _
      | exact LeO.none _
      | refine LeO.ite ?_ ?_
      | refine LeO.bind ?_ (fun _ => ?_)
set_option maxHeartbeats 8000000 in
set_option maxRecDepth 100000 in
theorem rollcallref01_Size.calls (k : Nat) (a0 : Int) (r : Int) (w : World) (h : rollcallref01_Size.f k a0 = some r) :
    Calls Try.prog 19 #[.int .u64 a0] w fun e w' => e = .returned (.int .i64 r) ∧ Below w.heap.size w w' := by
  have HB := Aside0.mk (Below.refl w.heap.size w)
  have H : ((rollcallref01_Put.f k a0).bind fun t271 => (some (t271.size : Int))) = some r := h
  clear h
  replace H := Option.bind_eq_some_iff.mp H
  obtain ⟨t271, A20, H⟩ := H
  replace H : (some (t271.size : Int)) = some r := H
  have A2 := Aside0.mk A20
  clear A20
  obtain rfl := Option.some.inj H
  go_enter Try.func19, Try.ntmps19
  go_wp2_with (first | ((with_reducible refine gate_callee (f := 22) rfl ?_); refine goesL_ (some 4) rfl rfl Try.func22 (by kernel_rfl) rfl #[.int .u64 a0] rfl (by (try simp only [List.map_toArray, List.map_cons, List.map_nil]); first | done | rfl | (simp only [List.length_drop, List.length_take]; rfl)) ?_; (with_reducible refine (rollcallref01_Put.calls k a0 t271 _ A2.out).mono ?_); rintro e w3 ⟨rfl, hb⟩; refine ⟨_, rfl, ?_⟩; have n0_ := Aside0.mk (below_step (by repeat (first | (with_reducible first | exact HB.out | apply below_alloc | apply pw_below_drewN | apply below_drew1) | exact HB.out)) hb); clear HB; have HB := n0_; clear n0_; (try clear hb); (try clear hb2); (try clear hk); (try clear hi)))
  go_ret
  exact ⟨by first | rfl | (simp [errW_none, errW_some] <;> rfl) | (simp [*, errW_none, errW_some] <;> rfl), by repeat (first | (with_reducible first | exact HB.out | apply below_alloc | apply pw_below_drewN | apply below_drew1) | exact HB.out)⟩

end Go.Proofs.Ytgchnnkbknaklaa.PA
