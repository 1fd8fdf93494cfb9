-- Written by a program of this session (wip/tools/xprint.py), which drives the kit's print.
import Derived.Test.YtbapkknjbbaclaaPAx0
import Derived.Test.YtbapkknjbbaclaaPAx1
namespace Go.Proofs.Ytbapkknjbbaclaa.PA
open Go.RowKit Go.Proofs.YtbapkknjbbaclaaW.PrintWords Go.Proofs.YtbapkknjbbaclaaW.PrintLast Go.Proofs.YtbapkknjbbaclaaW.PrintMore
attribute [local go_sem] max2_int min2_int max_two min_two max_three min_three max_four min_four   -- for this text's walks alone
set_option linter.unusedVariables false
set_option linter.unusedSimpArgs false

attribute [local go_sem high] eqA24
/-! ### rollcallref11_Worth: function 20 -/
def rollcallref11_Worth.j0 : Nat → Bool → Int → Int → Int → ByteArray → Int → Int → Int → ByteArray → Option (Int)
  | 0, _, _, _, _, _, _, _, _, _ => none
  | k + 1, x23, x208000, x208001, x208002, x208003, x209000, x209001, x209002, x209003 => if x23 = true then (some 1) else (if (x208000 == x209000 && (x208001 == x209001 && (x208002 == x209002 && (x208003.toList == x209003.toList)))) = true then (some 0) else (if x208000 = x209000 then (if x208001 = x209001 then (some 0) else (some (-1))) else (some (-1))))
def rollcallref11_Worth.f (k : Nat) (a0_0 : Int) (a0_1 : Int) (a0_2 : Int) (a0_3 : ByteArray) (a1_0 : Int) (a1_1 : Int) (a1_2 : Int) (a1_3 : ByteArray) : Option (Int) := if a0_0 > a1_0 then (rollcallref11_Worth.j0 k true a0_0 a0_1 a0_2 a0_3 a1_0 a1_1 a1_2 a1_3) else (if a0_0 = a1_0 then (rollcallref11_Worth.j0 k (decide (a0_1 > a1_1)) a0_0 a0_1 a0_2 a0_3 a1_0 a1_1 a1_2 a1_3) else (rollcallref11_Worth.j0 k false a0_0 a0_1 a0_2 a0_3 a1_0 a1_1 a1_2 a1_3))
theorem rollcallref11_Worth.mono_l : ∀ k, (∀ y0 y1 y2 y3 y4 y5 y6 y7 y8, LeO (rollcallref11_Worth.j0 k y0 y1 y2 y3 y4 y5 y6 y7 y8) (rollcallref11_Worth.j0 (k + 1) y0 y1 y2 y3 y4 y5 y6 y7 y8))
  | 0 => fun _ _ _ _ _ _ _ _ _ r h => by simp [rollcallref11_Worth.j0] at h
  | k + 1 => by
    have ih0 := rollcallref11_Worth.mono_l k
    · intro y0 y1 y2 y3 y4 y5 y6 y7 y8
      unfold rollcallref11_Worth.j0
      repeat' first
      | (with_reducible exact ih0 _ _ _ _ _ _ _ _ _)
      | (with_reducible exact LeO.refl _)
      | (with_reducible exact LeO.none _)
      | (with_reducible refine LeO.ite ?_ ?_)
      | (with_reducible refine LeO.bind ?_ (fun _ => ?_))
      | exact ih0 _ _ _ _ _ _ _ _ _
      | exact LeO.none _
      | refine LeO.ite ?_ ?_
      | refine LeO.bind ?_ (fun _ => ?_)
theorem rollcallref11_Worth.mono : ∀ a0 a1 a2 a3 a4 a5 a6 a7 k, LeO (rollcallref11_Worth.f k a0 a1 a2 a3 a4 a5 a6 a7) (rollcallref11_Worth.f (k + 1) a0 a1 a2 a3 a4 a5 a6 a7) := by
  intro a0 a1 a2 a3 a4 a5 a6 a7 k
  have ih0 := rollcallref11_Worth.mono_l k
  unfold rollcallref11_Worth.f
  repeat' first
      | (with_reducible exact ih0 _ _ _ _ _ _ _ _ _)
      | (with_reducible exact LeO.refl _)
      | (with_reducible exact LeO.none _)
      | (with_reducible refine LeO.ite ?_ ?_)
      | (with_reducible refine LeO.bind ?_ (fun _ => ?_))
      | exact ih0 _ _ _ _ _ _ _ _ _
      | exact LeO.none _
      | refine LeO.ite ?_ ?_
      | refine LeO.bind ?_ (fun _ => ?_)
set_option maxHeartbeats 8000000 in
set_option maxRecDepth 100000 in
theorem rollcallref11_Worth.calls (k : Nat) (a0_0 : Int) (a0_1 : Int) (a0_2 : Int) (a0_3 : ByteArray) (a1_0 : Int) (a1_1 : Int) (a1_2 : Int) (a1_3 : ByteArray) (r : Int) (w : World) (h : rollcallref11_Worth.f k a0_0 a0_1 a0_2 a0_3 a1_0 a1_1 a1_2 a1_3 = some r) :
    Calls Try.prog 20 #[.agg #[.int .i64 a0_0, .int .i64 a0_1, .int .i64 a0_2, .string a0_3], .agg #[.int .i64 a1_0, .int .i64 a1_1, .int .i64 a1_2, .string a1_3]] w fun e w' => e = .returned (.int .i64 r) ∧ Below w.heap.size w w' := by
  have hu24 := Try.underlying24
  have HB := Aside0.mk (Below.refl w.heap.size w)
  have H : (if a0_0 > a1_0 then (rollcallref11_Worth.j0 k true a0_0 a0_1 a0_2 a0_3 a1_0 a1_1 a1_2 a1_3) else (if a0_0 = a1_0 then (rollcallref11_Worth.j0 k (decide (a0_1 > a1_1)) a0_0 a0_1 a0_2 a0_3 a1_0 a1_1 a1_2 a1_3) else (rollcallref11_Worth.j0 k false a0_0 a0_1 a0_2 a0_3 a1_0 a1_1 a1_2 a1_3))) = some r := h
  clear h
  have HC3 := Aside0.mk H
  clear H
  go_enter Try.func20, Try.ntmps20
  go_upto_region 1 with (first | ((with_reducible refine gate_dst (N := 2) rfl ?_); refine box_event ?hg (N := 2) ?hd (cs := #[.int .i64 a0_0, .int .i64 a0_1, .int .i64 a0_2, .string a0_3]) (t := 24) ?hr ?_; (case hd => rfl); (case hg => rfl); (case hr => first | (go_simp; done) | (go_simp; rfl)); intro gb207 hg w4 hbox hb; have n0_ := Aside0.mk (below_step (by repeat (first | (with_reducible first | exact HB.out | apply below_alloc | apply pw_below_drewN | apply below_drew1) | exact HB.out)) hb); have n1_ := Aside0.mk (hbox); have n2_ := Aside0.mk ((by rw [hg]; exact (below_size (by repeat (first | (with_reducible first | exact HB.out | apply below_alloc | apply pw_below_drewN | apply below_drew1) | exact HB.out))) : w.heap.size ≤ gb207)); have n3_ := Aside0.mk ((by rw [hg]; exact (below_size (by repeat (first | (with_reducible first | exact HB.out | apply below_alloc | apply pw_below_drewN | apply below_drew1) | exact HB.out))) : w.heap.size ≤ gb207)); clear HB; have HB := n0_; have BK207 := n1_; have GW207 := n2_; have GE207 := n3_; clear n0_ n1_ n2_ n3_; clear hb hbox hg) | ((with_reducible refine gate_dst (N := 3) rfl ?_); refine box_event ?hg (N := 3) ?hd (cs := #[.int .i64 a1_0, .int .i64 a1_1, .int .i64 a1_2, .string a1_3]) (t := 24) ?hr ?_; (case hd => rfl); (case hg => rfl); (case hr => first | (go_simp; done) | (go_simp; rfl)); intro gb208 hg w5 hbox hb; have n0_ := Aside0.mk (blk_below (g := gb207) (o := .cells #[.int .i64 a0_0, .int .i64 a0_1, .int .i64 a0_2, .string a0_3] 24 (0, 0)) (by (with_reducible repeat (first | refine blk_drewN ?_ _ | refine blk_drew ?_ | refine blk_alloc ?_ _)); exact BK207.out) hb); have n1_ := Aside0.mk (below_step (by repeat (first | (with_reducible first | exact HB.out | apply below_alloc | apply pw_below_drewN | apply below_drew1 | refine below_set ?_ GE207.out) | exact HB.out)) hb); have n2_ := Aside0.mk (hbox); have n3_ := Aside0.mk ((by rw [hg]; exact (below_size (by repeat (first | (with_reducible first | exact HB.out | apply below_alloc | apply pw_below_drewN | apply below_drew1 | refine below_set ?_ GE207.out) | exact HB.out))) : w.heap.size ≤ gb208)); have n4_ := Aside0.mk ((by rw [hg]; exact (below_size (by repeat (first | (with_reducible first | exact HB.out | apply below_alloc | apply pw_below_drewN | apply below_drew1 | refine below_set ?_ GE207.out) | exact HB.out))) : w.heap.size ≤ gb208)); have n5_ := Aside0.mk ((by rw [hg]; exact Nat.ne_of_lt (blk_lt (g := gb207) (o := .cells #[.int .i64 a0_0, .int .i64 a0_1, .int .i64 a0_2, .string a0_3] 24 (0, 0)) (by (with_reducible repeat (first | refine blk_drewN ?_ _ | refine blk_drew ?_ | refine blk_alloc ?_ _)); exact BK207.out)) : gb207 ≠ gb208)); have n6_ := Aside0.mk ((by rw [hg]; exact Nat.ne_of_gt (blk_lt (g := gb207) (o := .cells #[.int .i64 a0_0, .int .i64 a0_1, .int .i64 a0_2, .string a0_3] 24 (0, 0)) (by (with_reducible repeat (first | refine blk_drewN ?_ _ | refine blk_drew ?_ | refine blk_alloc ?_ _)); exact BK207.out)) : gb208 ≠ gb207)); clear BK207; clear HB; have BK207 := n0_; have HB := n1_; have BK208 := n2_; have GW208 := n3_; have GE208 := n4_; have NB207_208 := n5_; have NB208_207 := n6_; clear n0_ n1_ n2_ n3_ n4_ n5_ n6_; clear hb hbox hg))
  (try simp only [Act.put, List.setIfInBounds_toArray, List.set_cons_zero, List.set_cons_succ])
  go_cut [23] (fun v23 wc => ∃ (kq : Nat) (x23_2 : Bool), v23 = .bool x23_2 ∧ Aside0 (rollcallref11_Worth.j0 kq x23_2 a0_0 a0_1 a0_2 a0_3 a1_0 a1_1 a1_2 a1_3 = some r) ∧ Aside0 (kq ≤ k) ∧ Aside0 (wc.heap[gb207]? = some (.cells #[.int .i64 a0_0, .int .i64 a0_1, .int .i64 a0_2, .string a0_3] 24 (0, 0))) ∧ Aside0 (wc.heap[gb208]? = some (.cells #[.int .i64 a1_0, .int .i64 a1_1, .int .i64 a1_2, .string a1_3] 24 (0, 0))) ∧ Aside0 (Below w.heap.size w wc))
  case first =>
    have H := HC3.out
    clear HC3
    by_cases c6 : a0_0 > a1_0
    · rw [if_pos c6] at H
      have c6b0 : decide (a1_0 < a0_0) = true := decide_eq_true c6
      clear c6
      (first | rw [c6b0] | (simp only [i64_w, i32_w]; rw [c6b0]) | skip)
      have H' := Aside0.mk H
      clear H
      have hnb7 := NB207_208.out
      have hnc7 := NB208_207.out
      have hcz8_0 : w5.cell? ⟨gb207, 0, none⟩ = some (.int .i64 a0_0) := (blk_cell BK207.out 0).trans rfl
      have hcz8_1 : w5.cell? ⟨gb207, 1, none⟩ = some (.int .i64 a0_1) := (blk_cell BK207.out 1).trans rfl
      have hcz8_2 : w5.cell? ⟨gb207, 2, none⟩ = some (.int .i64 a0_2) := (blk_cell BK207.out 2).trans rfl
      have hcz8_3 : w5.cell? ⟨gb207, 3, none⟩ = some (.string a0_3) := (blk_cell BK207.out 3).trans rfl
      have hfz8_0 := blk_frozen BK207.out 0
      have hfz8_1 := blk_frozen BK207.out 1
      have hfz8_2 := blk_frozen BK207.out 2
      have hfz8_3 := blk_frozen BK207.out 3
      have hcz9_0 : w5.cell? ⟨gb208, 0, none⟩ = some (.int .i64 a1_0) := (blk_cell BK208.out 0).trans rfl
      have hcz9_1 : w5.cell? ⟨gb208, 1, none⟩ = some (.int .i64 a1_1) := (blk_cell BK208.out 1).trans rfl
      have hcz9_2 : w5.cell? ⟨gb208, 2, none⟩ = some (.int .i64 a1_2) := (blk_cell BK208.out 2).trans rfl
      have hcz9_3 : w5.cell? ⟨gb208, 3, none⟩ = some (.string a1_3) := (blk_cell BK208.out 3).trans rfl
      have hfz9_0 := blk_frozen BK208.out 0
      have hfz9_1 := blk_frozen BK208.out 1
      have hfz9_2 := blk_frozen BK208.out 2
      have hfz9_3 := blk_frozen BK208.out 3
      go_wp2
      go_meet
      case rel => exact ⟨_, (true), (by first | rfl | (simp; done) | (simp [*]; done)), H', ⟨by first | omega | exact Nat.le_refl _⟩, ⟨by (with_reducible repeat (first | refine blk_drewN ?_ _ | refine blk_drew ?_ | refine blk_alloc ?_ _)); exact BK207.out⟩, ⟨by (with_reducible repeat (first | refine blk_drewN ?_ _ | refine blk_drew ?_ | refine blk_alloc ?_ _)); exact BK208.out⟩, ⟨by repeat (first | (with_reducible first | exact HB.out | apply below_alloc | apply pw_below_drewN | apply below_drew1 | refine below_set ?_ GE207.out | refine below_set ?_ GE208.out) | exact HB.out)⟩⟩
    · rw [if_neg c6] at H
      have c6b0 : decide (a1_0 < a0_0) = false := decide_eq_false c6
      clear c6
      (first | rw [c6b0] | (simp only [i64_w, i32_w]; rw [c6b0]) | skip)
      by_cases c10 : a0_0 = a1_0
      · rw [if_pos c10] at H
        have c10b0 : (a0_0 == a1_0) = true := beq_iff_eq.mpr c10
        have c10b1 : (a0_0 != a1_0) = false := bne_eq_false_iff_eq.mpr c10
        clear c10
        have H' := Aside0.mk H
        clear H
        have hnb11 := NB207_208.out
        have hnc11 := NB208_207.out
        have hcz12_0 : w5.cell? ⟨gb207, 0, none⟩ = some (.int .i64 a0_0) := (blk_cell BK207.out 0).trans rfl
        have hcz12_1 : w5.cell? ⟨gb207, 1, none⟩ = some (.int .i64 a0_1) := (blk_cell BK207.out 1).trans rfl
        have hcz12_2 : w5.cell? ⟨gb207, 2, none⟩ = some (.int .i64 a0_2) := (blk_cell BK207.out 2).trans rfl
        have hcz12_3 : w5.cell? ⟨gb207, 3, none⟩ = some (.string a0_3) := (blk_cell BK207.out 3).trans rfl
        have hfz12_0 := blk_frozen BK207.out 0
        have hfz12_1 := blk_frozen BK207.out 1
        have hfz12_2 := blk_frozen BK207.out 2
        have hfz12_3 := blk_frozen BK207.out 3
        have hcz13_0 : w5.cell? ⟨gb208, 0, none⟩ = some (.int .i64 a1_0) := (blk_cell BK208.out 0).trans rfl
        have hcz13_1 : w5.cell? ⟨gb208, 1, none⟩ = some (.int .i64 a1_1) := (blk_cell BK208.out 1).trans rfl
        have hcz13_2 : w5.cell? ⟨gb208, 2, none⟩ = some (.int .i64 a1_2) := (blk_cell BK208.out 2).trans rfl
        have hcz13_3 : w5.cell? ⟨gb208, 3, none⟩ = some (.string a1_3) := (blk_cell BK208.out 3).trans rfl
        have hfz13_0 := blk_frozen BK208.out 0
        have hfz13_1 := blk_frozen BK208.out 1
        have hfz13_2 := blk_frozen BK208.out 2
        have hfz13_3 := blk_frozen BK208.out 3
        go_wp2
        go_meet
        case rel => exact ⟨_, (decide (a0_1 > a1_1)), (by first | rfl | (simp; done) | (simp [*]; done)), H', ⟨by first | omega | exact Nat.le_refl _⟩, ⟨by (with_reducible repeat (first | refine blk_drewN ?_ _ | refine blk_drew ?_ | refine blk_alloc ?_ _)); exact BK207.out⟩, ⟨by (with_reducible repeat (first | refine blk_drewN ?_ _ | refine blk_drew ?_ | refine blk_alloc ?_ _)); exact BK208.out⟩, ⟨by repeat (first | (with_reducible first | exact HB.out | apply below_alloc | apply pw_below_drewN | apply below_drew1 | refine below_set ?_ GE207.out | refine below_set ?_ GE208.out) | exact HB.out)⟩⟩
      · rw [if_neg c10] at H
        have c10b0 : (a0_0 == a1_0) = false := beq_eq_false_iff_ne.mpr c10
        have c10b1 : (a0_0 != a1_0) = true := bne_iff_ne.mpr c10
        have H' := Aside0.mk H
        clear H
        have hnb14 := NB207_208.out
        have hnc14 := NB208_207.out
        have hcz15_0 : w5.cell? ⟨gb207, 0, none⟩ = some (.int .i64 a0_0) := (blk_cell BK207.out 0).trans rfl
        have hcz15_1 : w5.cell? ⟨gb207, 1, none⟩ = some (.int .i64 a0_1) := (blk_cell BK207.out 1).trans rfl
        have hcz15_2 : w5.cell? ⟨gb207, 2, none⟩ = some (.int .i64 a0_2) := (blk_cell BK207.out 2).trans rfl
        have hcz15_3 : w5.cell? ⟨gb207, 3, none⟩ = some (.string a0_3) := (blk_cell BK207.out 3).trans rfl
        have hfz15_0 := blk_frozen BK207.out 0
        have hfz15_1 := blk_frozen BK207.out 1
        have hfz15_2 := blk_frozen BK207.out 2
        have hfz15_3 := blk_frozen BK207.out 3
        have hcz16_0 : w5.cell? ⟨gb208, 0, none⟩ = some (.int .i64 a1_0) := (blk_cell BK208.out 0).trans rfl
        have hcz16_1 : w5.cell? ⟨gb208, 1, none⟩ = some (.int .i64 a1_1) := (blk_cell BK208.out 1).trans rfl
        have hcz16_2 : w5.cell? ⟨gb208, 2, none⟩ = some (.int .i64 a1_2) := (blk_cell BK208.out 2).trans rfl
        have hcz16_3 : w5.cell? ⟨gb208, 3, none⟩ = some (.string a1_3) := (blk_cell BK208.out 3).trans rfl
        have hfz16_0 := blk_frozen BK208.out 0
        have hfz16_1 := blk_frozen BK208.out 1
        have hfz16_2 := blk_frozen BK208.out 2
        have hfz16_3 := blk_frozen BK208.out 3
        go_wp2
        go_meet
        case rel => exact ⟨_, (false), (by first | rfl | (simp; done) | (simp [*]; done)), H', ⟨by first | omega | exact Nat.le_refl _⟩, ⟨by (with_reducible repeat (first | refine blk_drewN ?_ _ | refine blk_drew ?_ | refine blk_alloc ?_ _)); exact BK207.out⟩, ⟨by (with_reducible repeat (first | refine blk_drewN ?_ _ | refine blk_drew ?_ | refine blk_alloc ?_ _)); exact BK208.out⟩, ⟨by repeat (first | (with_reducible first | exact HB.out | apply below_alloc | apply pw_below_drewN | apply below_drew1 | refine below_set ?_ GE207.out | refine below_set ?_ GE208.out) | exact HB.out)⟩⟩
  case rest =>
    clear HC3
    try clear c1
    try clear c2
    try clear p2
    try clear c6
    try clear c6b0
    try clear c7
    try clear c10
    try clear c10b0
    try clear c10b1
    try clear c11
    try clear c14
    try clear hcz12_0
    try clear hcz12_1
    try clear hcz12_2
    try clear hcz12_3
    try clear hcz13_0
    try clear hcz13_1
    try clear hcz13_2
    try clear hcz13_3
    try clear hcz15_0
    try clear hcz15_1
    try clear hcz15_2
    try clear hcz15_3
    try clear hcz16_0
    try clear hcz16_1
    try clear hcz16_2
    try clear hcz16_3
    try clear hcz8_0
    try clear hcz8_1
    try clear hcz8_2
    try clear hcz8_3
    try clear hcz9_0
    try clear hcz9_1
    try clear hcz9_2
    try clear hcz9_3
    try clear hfz12_0
    try clear hfz12_1
    try clear hfz12_2
    try clear hfz12_3
    try clear hfz13_0
    try clear hfz13_1
    try clear hfz13_2
    try clear hfz13_3
    try clear hfz15_0
    try clear hfz15_1
    try clear hfz15_2
    try clear hfz15_3
    try clear hfz16_0
    try clear hfz16_1
    try clear hfz16_2
    try clear hfz16_3
    try clear hfz8_0
    try clear hfz8_1
    try clear hfz8_2
    try clear hfz8_3
    try clear hfz9_0
    try clear hfz9_1
    try clear hfz9_2
    try clear hfz9_3
    obtain ⟨kq, x23_2, rfl, HA, HJ2, BK207, BK208, HB⟩ := hcut
    cases kq with
    | zero => exact absurd HA.out (by simp [rollcallref11_Worth.j0])
    | succ kj2 =>
      have H := HA.out
      clear HA
      simp only [rollcallref11_Worth.j0] at H
      by_cases c17 : x23_2 = true
      · subst c17
        have H1 : (some 1) = some r := by rw [if_pos rfl] at H; exact H
        clear H
        have H := H1
        clear H1
        obtain rfl := Option.some.inj H
        go_wp2
        go_ret
        exact ⟨by first | rfl | (simp [errW_none, errW_some] <;> rfl) | (simp [*, errW_none, errW_some] <;> rfl), by repeat (first | (with_reducible first | exact HB.out | apply below_alloc | apply pw_below_drewN | apply below_drew1 | refine below_set ?_ GE207.out | refine below_set ?_ GE208.out) | exact HB.out)⟩
      · replace c17 := Bool.eq_false_iff.mpr c17
        subst c17
        have H1 : (if (a0_0 == a1_0 && (a0_1 == a1_1 && (a0_2 == a1_2 && (a0_3.toList == a1_3.toList)))) = true then (some 0) else (if a0_0 = a1_0 then (if a0_1 = a1_1 then (some 0) else (some (-1))) else (some (-1)))) = some r := by rw [if_neg (show ¬ (false = true) by decide)] at H; exact H
        clear H
        have H := H1
        clear H1
        by_cases c18 : (a0_0 == a1_0 && (a0_1 == a1_1 && (a0_2 == a1_2 && (a0_3.toList == a1_3.toList)))) = true
        · rw [if_pos c18] at H
          have c18b0 : (a0_0 == a1_0 && (a0_1 == a1_1 && (a0_2 == a1_2 && (a0_3.toList == a1_3.toList)))) = true := c18
          (try (have c18b1 : decide (a0_0 = a1_0 && (a0_1 == a1_1 && (a0_2 == a1_2 && (a0_3.toList == a1_3.toList)))) = true := by simpa using c18))
          (try (have c18b2 : (a0_0 == a1_0 && (a0_1 == a1_1 && (a0_2 == a1_2 && (a0_3.toList == a1_3.toList)))) = true := by simpa using c18))
          clear c18
          obtain rfl := Option.some.inj H
          have hnb19 := NB207_208.out
          have hnc19 := NB208_207.out
          have hcz20_0 : wc.cell? ⟨gb207, 0, none⟩ = some (.int .i64 a0_0) := (blk_cell BK207.out 0).trans rfl
          have hcz20_1 : wc.cell? ⟨gb207, 1, none⟩ = some (.int .i64 a0_1) := (blk_cell BK207.out 1).trans rfl
          have hcz20_2 : wc.cell? ⟨gb207, 2, none⟩ = some (.int .i64 a0_2) := (blk_cell BK207.out 2).trans rfl
          have hcz20_3 : wc.cell? ⟨gb207, 3, none⟩ = some (.string a0_3) := (blk_cell BK207.out 3).trans rfl
          have hfz20_0 := blk_frozen BK207.out 0
          have hfz20_1 := blk_frozen BK207.out 1
          have hfz20_2 := blk_frozen BK207.out 2
          have hfz20_3 := blk_frozen BK207.out 3
          have hcz21_0 : wc.cell? ⟨gb208, 0, none⟩ = some (.int .i64 a1_0) := (blk_cell BK208.out 0).trans rfl
          have hcz21_1 : wc.cell? ⟨gb208, 1, none⟩ = some (.int .i64 a1_1) := (blk_cell BK208.out 1).trans rfl
          have hcz21_2 : wc.cell? ⟨gb208, 2, none⟩ = some (.int .i64 a1_2) := (blk_cell BK208.out 2).trans rfl
          have hcz21_3 : wc.cell? ⟨gb208, 3, none⟩ = some (.string a1_3) := (blk_cell BK208.out 3).trans rfl
          have hfz21_0 := blk_frozen BK208.out 0
          have hfz21_1 := blk_frozen BK208.out 1
          have hfz21_2 := blk_frozen BK208.out 2
          have hfz21_3 := blk_frozen BK208.out 3
          go_wp2
          go_ret
          exact ⟨by first | rfl | (simp [errW_none, errW_some] <;> rfl) | (simp [*, errW_none, errW_some] <;> rfl), by repeat (first | (with_reducible first | exact HB.out | apply below_alloc | apply pw_below_drewN | apply below_drew1 | refine below_set ?_ GE207.out | refine below_set ?_ GE208.out) | exact HB.out)⟩
        · rw [if_neg c18] at H
          have c18b0 : (a0_0 == a1_0 && (a0_1 == a1_1 && (a0_2 == a1_2 && (a0_3.toList == a1_3.toList)))) = false := by simpa using c18
          (try (have c18b1 : decide (a0_0 = a1_0 && (a0_1 == a1_1 && (a0_2 == a1_2 && (a0_3.toList == a1_3.toList)))) = false := by simpa using c18))
          (try (have c18b2 : (a0_0 == a1_0 && (a0_1 == a1_1 && (a0_2 == a1_2 && (a0_3.toList == a1_3.toList)))) = false := by simpa using c18))
          (try (have c18b3 : ¬ (a0_0 = a1_0 && (a0_1 == a1_1 && (a0_2 == a1_2 && (a0_3.toList == a1_3.toList)))) := by simpa using c18))
          clear c18
          by_cases c22 : a0_0 = a1_0
          · rw [if_pos c22] at H
            have c22b0 : (a0_0 == a1_0) = true := beq_iff_eq.mpr c22
            (try (have cz1_ := c18b0; simp only [c22b0, Bool.true_and, Bool.and_true, Bool.false_and, Bool.and_false] at cz1_))
            have c22b1 : (a0_0 != a1_0) = false := bne_eq_false_iff_eq.mpr c22
            clear c22
            by_cases c23 : a0_1 = a1_1
            · rw [if_pos c23] at H
              have c23b0 : (a0_1 == a1_1) = true := beq_iff_eq.mpr c23
              (try (have cz2_ := c18b0; simp only [c23b0, Bool.true_and, Bool.and_true, Bool.false_and, Bool.and_false] at cz2_))
              (try (have cz3_ := cz1_; simp only [c23b0, Bool.true_and, Bool.and_true, Bool.false_and, Bool.and_false] at cz3_))
              have c23b1 : (a0_1 != a1_1) = false := bne_eq_false_iff_eq.mpr c23
              clear c23
              obtain rfl := Option.some.inj H
              have hnb24 := NB207_208.out
              have hnc24 := NB208_207.out
              have hcz25_0 : wc.cell? ⟨gb207, 0, none⟩ = some (.int .i64 a0_0) := (blk_cell BK207.out 0).trans rfl
              have hcz25_1 : wc.cell? ⟨gb207, 1, none⟩ = some (.int .i64 a0_1) := (blk_cell BK207.out 1).trans rfl
              have hcz25_2 : wc.cell? ⟨gb207, 2, none⟩ = some (.int .i64 a0_2) := (blk_cell BK207.out 2).trans rfl
              have hcz25_3 : wc.cell? ⟨gb207, 3, none⟩ = some (.string a0_3) := (blk_cell BK207.out 3).trans rfl
              have hfz25_0 := blk_frozen BK207.out 0
              have hfz25_1 := blk_frozen BK207.out 1
              have hfz25_2 := blk_frozen BK207.out 2
              have hfz25_3 := blk_frozen BK207.out 3
              have hcz26_0 : wc.cell? ⟨gb208, 0, none⟩ = some (.int .i64 a1_0) := (blk_cell BK208.out 0).trans rfl
              have hcz26_1 : wc.cell? ⟨gb208, 1, none⟩ = some (.int .i64 a1_1) := (blk_cell BK208.out 1).trans rfl
              have hcz26_2 : wc.cell? ⟨gb208, 2, none⟩ = some (.int .i64 a1_2) := (blk_cell BK208.out 2).trans rfl
              have hcz26_3 : wc.cell? ⟨gb208, 3, none⟩ = some (.string a1_3) := (blk_cell BK208.out 3).trans rfl
              have hfz26_0 := blk_frozen BK208.out 0
              have hfz26_1 := blk_frozen BK208.out 1
              have hfz26_2 := blk_frozen BK208.out 2
              have hfz26_3 := blk_frozen BK208.out 3
              go_wp2
              go_ret
              exact ⟨by first | rfl | (simp [errW_none, errW_some] <;> rfl) | (simp [*, errW_none, errW_some] <;> rfl), by repeat (first | (with_reducible first | exact HB.out | apply below_alloc | apply pw_below_drewN | apply below_drew1 | refine below_set ?_ GE207.out | refine below_set ?_ GE208.out) | exact HB.out)⟩
            · rw [if_neg c23] at H
              have c23b0 : (a0_1 == a1_1) = false := beq_eq_false_iff_ne.mpr c23
              (try (have cz4_ := c18b0; simp only [c23b0, Bool.true_and, Bool.and_true, Bool.false_and, Bool.and_false] at cz4_))
              (try (have cz5_ := cz1_; simp only [c23b0, Bool.true_and, Bool.and_true, Bool.false_and, Bool.and_false] at cz5_))
              have c23b1 : (a0_1 != a1_1) = true := bne_iff_ne.mpr c23
              obtain rfl := Option.some.inj H
              have hnb27 := NB207_208.out
              have hnc27 := NB208_207.out
              have hcz28_0 : wc.cell? ⟨gb207, 0, none⟩ = some (.int .i64 a0_0) := (blk_cell BK207.out 0).trans rfl
              have hcz28_1 : wc.cell? ⟨gb207, 1, none⟩ = some (.int .i64 a0_1) := (blk_cell BK207.out 1).trans rfl
              have hcz28_2 : wc.cell? ⟨gb207, 2, none⟩ = some (.int .i64 a0_2) := (blk_cell BK207.out 2).trans rfl
              have hcz28_3 : wc.cell? ⟨gb207, 3, none⟩ = some (.string a0_3) := (blk_cell BK207.out 3).trans rfl
              have hfz28_0 := blk_frozen BK207.out 0
              have hfz28_1 := blk_frozen BK207.out 1
              have hfz28_2 := blk_frozen BK207.out 2
              have hfz28_3 := blk_frozen BK207.out 3
              have hcz29_0 : wc.cell? ⟨gb208, 0, none⟩ = some (.int .i64 a1_0) := (blk_cell BK208.out 0).trans rfl
              have hcz29_1 : wc.cell? ⟨gb208, 1, none⟩ = some (.int .i64 a1_1) := (blk_cell BK208.out 1).trans rfl
              have hcz29_2 : wc.cell? ⟨gb208, 2, none⟩ = some (.int .i64 a1_2) := (blk_cell BK208.out 2).trans rfl
              have hcz29_3 : wc.cell? ⟨gb208, 3, none⟩ = some (.string a1_3) := (blk_cell BK208.out 3).trans rfl
              have hfz29_0 := blk_frozen BK208.out 0
              have hfz29_1 := blk_frozen BK208.out 1
              have hfz29_2 := blk_frozen BK208.out 2
              have hfz29_3 := blk_frozen BK208.out 3
              go_wp2
              go_ret
              exact ⟨by first | rfl | (simp [errW_none, errW_some] <;> rfl) | (simp [*, errW_none, errW_some] <;> rfl), by repeat (first | (with_reducible first | exact HB.out | apply below_alloc | apply pw_below_drewN | apply below_drew1 | refine below_set ?_ GE207.out | refine below_set ?_ GE208.out) | exact HB.out)⟩
          · rw [if_neg c22] at H
            have c22b0 : (a0_0 == a1_0) = false := beq_eq_false_iff_ne.mpr c22
            (try (have cz6_ := c18b0; simp only [c22b0, Bool.true_and, Bool.and_true, Bool.false_and, Bool.and_false] at cz6_))
            have c22b1 : (a0_0 != a1_0) = true := bne_iff_ne.mpr c22
            obtain rfl := Option.some.inj H
            have hnb30 := NB207_208.out
            have hnc30 := NB208_207.out
            have hcz31_0 : wc.cell? ⟨gb207, 0, none⟩ = some (.int .i64 a0_0) := (blk_cell BK207.out 0).trans rfl
            have hcz31_1 : wc.cell? ⟨gb207, 1, none⟩ = some (.int .i64 a0_1) := (blk_cell BK207.out 1).trans rfl
            have hcz31_2 : wc.cell? ⟨gb207, 2, none⟩ = some (.int .i64 a0_2) := (blk_cell BK207.out 2).trans rfl
            have hcz31_3 : wc.cell? ⟨gb207, 3, none⟩ = some (.string a0_3) := (blk_cell BK207.out 3).trans rfl
            have hfz31_0 := blk_frozen BK207.out 0
            have hfz31_1 := blk_frozen BK207.out 1
            have hfz31_2 := blk_frozen BK207.out 2
            have hfz31_3 := blk_frozen BK207.out 3
            have hcz32_0 : wc.cell? ⟨gb208, 0, none⟩ = some (.int .i64 a1_0) := (blk_cell BK208.out 0).trans rfl
            have hcz32_1 : wc.cell? ⟨gb208, 1, none⟩ = some (.int .i64 a1_1) := (blk_cell BK208.out 1).trans rfl
            have hcz32_2 : wc.cell? ⟨gb208, 2, none⟩ = some (.int .i64 a1_2) := (blk_cell BK208.out 2).trans rfl
            have hcz32_3 : wc.cell? ⟨gb208, 3, none⟩ = some (.string a1_3) := (blk_cell BK208.out 3).trans rfl
            have hfz32_0 := blk_frozen BK208.out 0
            have hfz32_1 := blk_frozen BK208.out 1
            have hfz32_2 := blk_frozen BK208.out 2
            have hfz32_3 := blk_frozen BK208.out 3
            go_wp2
            go_ret
            exact ⟨by first | rfl | (simp [errW_none, errW_some] <;> rfl) | (simp [*, errW_none, errW_some] <;> rfl), by repeat (first | (with_reducible first | exact HB.out | apply below_alloc | apply pw_below_drewN | apply below_drew1 | refine below_set ?_ GE207.out | refine below_set ?_ GE208.out) | exact HB.out)⟩

end Go.Proofs.Ytbapkknjbbaclaa.PA
