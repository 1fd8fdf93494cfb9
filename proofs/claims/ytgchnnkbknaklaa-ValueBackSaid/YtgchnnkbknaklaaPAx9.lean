-- Written by a program of this session (wip/tools/xprint.py), which drives the kit's print.
import Derived.Test.YtgchnnkbknaklaaPAx0
import Derived.Test.YtgchnnkbknaklaaPAx1
import Derived.Test.YtgchnnkbknaklaaPAx2
import Derived.Test.YtgchnnkbknaklaaPAx3
import Derived.Test.YtgchnnkbknaklaaPAx4
namespace Go.Proofs.Ytgchnnkbknaklaa.PA
open Go.RowKit Go.Proofs.YtgchnnkbknaklaaW.PrintWords Go.Proofs.YtgchnnkbknaklaaW.PrintLast Go.Proofs.YtgchnnkbknaklaaW.PrintMore
attribute [local go_sem] max2_int min2_int max_two min_two max_three min_three max_four min_four   -- for this text's walks alone
set_option linter.unusedVariables false
set_option linter.unusedSimpArgs false

attribute [local go_sem high] eqA23
/-! ### rollcalllaw04_ValueBack: function 5 -/
mutual
def rollcalllaw04_ValueBack.j0 : Nat → ByteArray → ByteArray → Bool → Int → Int → Int → ByteArray → Option (Bool)
  | 0, _, _, _, _, _, _, _ => none
  | k + 1, x1, x2, x30, x236000, x236001, x236002, x236003 => if x30 = true then ((rollcalllaw04_live.f k).bind fun t236 => (some t236)) else ((value_Put.f k x236000 x236001 x236002 x236003).bind fun bt237 => ((value_May.f x236000 x236001 x236002 x236003).bind fun t239 => (if (bt237.2 != t239) = true then (rollcalllaw04_ValueBack.j1 k x1 x2 bt237.1 bt237.2 true x236000 x236001 x236002 x236003) else (if bt237.2 = true then (rollcalllaw04_ValueBack.j1 k x1 x2 bt237.1 bt237.2 false x236000 x236001 x236002 x236003) else (rollcalllaw04_ValueBack.j1 k x1 x2 bt237.1 bt237.2 (bt237.1.toList != ([] : List UInt8)) x236000 x236001 x236002 x236003)))))
def rollcalllaw04_ValueBack.j1 : Nat → ByteArray → ByteArray → ByteArray → Bool → Bool → Int → Int → Int → ByteArray → Option (Bool)
  | 0, _, _, _, _, _, _, _, _, _ => none
  | k + 1, x1, x2, x7, x8, x48, x236000, x236001, x236002, x236003 => if x48 = true then (some false) else (if x8 = true then (if x1.size + x7.size ≤ 9223372036854775807 then (if (x1 ++ x7).size + x2.size ≤ 9223372036854775807 then ((value_Take.f k ((x1 ++ x7) ++ x2) (x1.size : Int)).bind fun bt240 => (if bt240.2.2.2.2.2 = 0 then (if (!(bt240.1 == x236000) || (!(bt240.2.1 == x236001) || (!(bt240.2.2.1 == x236002) || (!(bt240.2.2.2.1.toList == x236003.toList))))) = true then (some false) else (if bt240.2.2.2.2.1 = (wrap64 ((x1.size : Int) + (x7.size : Int))) then (rollcalllaw04_ValueBack.j2 k x2) else (some false))) else (some false))) else (none)) else (none)) else (rollcalllaw04_ValueBack.j2 k x2))
def rollcalllaw04_ValueBack.j2 : Nat → ByteArray → Option (Bool)
  | 0, _ => none
  | k + 1, x2 => (value_Take.f k x2 0).bind fun bt247 => (if bt247.2.2.2.2.2 = 0 then ((value_Put.f k bt247.1 bt247.2.1 bt247.2.2.1 bt247.2.2.2.1).bind fun bt254 => (if bt254.2 = true then (if bt247.2.2.2.2.1 ≥ 0 then (if bt247.2.2.2.2.1 ≤ (x2.size : Int) then (if 0 ≤ bt247.2.2.2.2.1 then (if bt254.1.toList = (x2.extract 0 (bt247.2.2.2.2.1 : Int).toNat).toList then ((rollcalllaw04_live.f k).bind fun t256 => (some t256)) else (some false)) else (none)) else (some false)) else (some false)) else (some false))) else (if (bt247.1 == 0 && (bt247.2.1 == 0 && (bt247.2.2.1 == 0 && (bt247.2.2.2.1.toList == ([] : List UInt8))))) = true then (if bt247.2.2.2.2.1 = 0 then ((rollcalllaw04_live.f k).bind fun t257 => (some t257)) else (some false)) else (some false)))
end
def rollcalllaw04_ValueBack.f (k : Nat) (a0_0 : Int) (a0_1 : Int) (a0_2 : Int) (a0_3 : ByteArray) (a1 : ByteArray) (a2 : ByteArray) : Option (Bool) := if (a0_3.size : Int) > 300 then (rollcalllaw04_ValueBack.j0 k a1 a2 true a0_0 a0_1 a0_2 a0_3) else (if (a1.size : Int) > 300 then (rollcalllaw04_ValueBack.j0 k a1 a2 true a0_0 a0_1 a0_2 a0_3) else (rollcalllaw04_ValueBack.j0 k a1 a2 (decide ((a2.size : Int) > 300)) a0_0 a0_1 a0_2 a0_3))
theorem rollcalllaw04_ValueBack.mono_l : ∀ k, (∀ y0 y1 y2 y3 y4 y5 y6, LeO (rollcalllaw04_ValueBack.j0 k y0 y1 y2 y3 y4 y5 y6) (rollcalllaw04_ValueBack.j0 (k + 1) y0 y1 y2 y3 y4 y5 y6)) ∧ (∀ y0 y1 y2 y3 y4 y5 y6 y7 y8, LeO (rollcalllaw04_ValueBack.j1 k y0 y1 y2 y3 y4 y5 y6 y7 y8) (rollcalllaw04_ValueBack.j1 (k + 1) y0 y1 y2 y3 y4 y5 y6 y7 y8)) ∧ (∀ y0, LeO (rollcalllaw04_ValueBack.j2 k y0) (rollcalllaw04_ValueBack.j2 (k + 1) y0))
  | 0 => ⟨fun _ _ _ _ _ _ _ r h => by simp [rollcalllaw04_ValueBack.j0] at h, fun _ _ _ _ _ _ _ _ _ r h => by simp [rollcalllaw04_ValueBack.j1] at h, fun _ r h => by simp [rollcalllaw04_ValueBack.j2] at h⟩
  | k + 1 => by
    obtain ⟨ih0, ih1, ih2⟩ := rollcalllaw04_ValueBack.mono_l k
    refine ⟨?_, ?_, ?_⟩
    · intro y0 y1 y2 y3 y4 y5 y6
      unfold rollcalllaw04_ValueBack.j0
      repeat' first
      | (with_reducible exact ih0 _ _ _ _ _ _ _)
      | (with_reducible exact ih1 _ _ _ _ _ _ _ _ _)
      | (with_reducible exact ih2 _)
      | (with_reducible exact rollcalllaw04_live.mono _)
      | (with_reducible exact value_Put.mono _ _ _ _ _)
      | (with_reducible exact value_Take.mono _ _ _)
      | (with_reducible exact LeO.refl _)
      | (with_reducible exact LeO.none _)
      | (with_reducible refine LeO.ite ?_ ?_)
      | (with_reducible refine LeO.bind ?_ (fun _ => ?_))
      | exact ih0 _ _ _ _ _ _ _
      | exact ih1 _ _ _ _ _ _ _ _ _
      | exact ih2 _
      | exact rollcalllaw04_live.mono _
      | exact value_Put.mono _ _ _ _ _
      | exact value_Take.mono _ _ _
      | exact LeO.none _
      | refine LeO.ite ?_ ?_
      | refine LeO.bind ?_ (fun _ => ?_)
    · intro y0 y1 y2 y3 y4 y5 y6 y7 y8
      unfold rollcalllaw04_ValueBack.j1
      repeat' first
      | (with_reducible exact ih0 _ _ _ _ _ _ _)
      | (with_reducible exact ih1 _ _ _ _ _ _ _ _ _)
      | (with_reducible exact ih2 _)
      | (with_reducible exact rollcalllaw04_live.mono _)
      | (with_reducible exact value_Put.mono _ _ _ _ _)
      | (with_reducible exact value_Take.mono _ _ _)
      | (with_reducible exact LeO.refl _)
      | (with_reducible exact LeO.none _)
      | (with_reducible refine LeO.ite ?_ ?_)
      | (with_reducible refine LeO.bind ?_ (fun _ => ?_))
      | exact ih0 _ _ _ _ _ _ _
      | exact ih1 _ _ _ _ _ _ _ _ _
      | exact ih2 _
      | exact rollcalllaw04_live.mono _
      | exact value_Put.mono _ _ _ _ _
      | exact value_Take.mono _ _ _
      | exact LeO.none _
      | refine LeO.ite ?_ ?_
      | refine LeO.bind ?_ (fun _ => ?_)
    · intro y0
      unfold rollcalllaw04_ValueBack.j2
      repeat' first
      | (with_reducible exact ih0 _ _ _ _ _ _ _)
      | (with_reducible exact ih1 _ _ _ _ _ _ _ _ _)
      | (with_reducible exact ih2 _)
      | (with_reducible exact rollcalllaw04_live.mono _)
      | (with_reducible exact value_Put.mono _ _ _ _ _)
      | (with_reducible exact value_Take.mono _ _ _)
      | (with_reducible exact LeO.refl _)
      | (with_reducible exact LeO.none _)
      | (with_reducible refine LeO.ite ?_ ?_)
      | (with_reducible refine LeO.bind ?_ (fun _ => ?_))
      | exact ih0 _ _ _ _ _ _ _
      | exact ih1 _ _ _ _ _ _ _ _ _
      | exact ih2 _
      | exact rollcalllaw04_live.mono _
      | exact value_Put.mono _ _ _ _ _
      | exact value_Take.mono _ _ _
      | exact LeO.none _
      | refine LeO.ite ?_ ?_
      | refine LeO.bind ?_ (fun _ => ?_)
theorem rollcalllaw04_ValueBack.mono : ∀ a0 a1 a2 a3 a4 a5 k, LeO (rollcalllaw04_ValueBack.f k a0 a1 a2 a3 a4 a5) (rollcalllaw04_ValueBack.f (k + 1) a0 a1 a2 a3 a4 a5) := by
  intro a0 a1 a2 a3 a4 a5 k
  obtain ⟨ih0, ih1, ih2⟩ := rollcalllaw04_ValueBack.mono_l k
  unfold rollcalllaw04_ValueBack.f
  repeat' first
      | (with_reducible exact ih0 _ _ _ _ _ _ _)
      | (with_reducible exact ih1 _ _ _ _ _ _ _ _ _)
      | (with_reducible exact ih2 _)
      | (with_reducible exact rollcalllaw04_live.mono _)
      | (with_reducible exact value_Put.mono _ _ _ _ _)
      | (with_reducible exact value_Take.mono _ _ _)
      | (with_reducible exact LeO.refl _)
      | (with_reducible exact LeO.none _)
      | (with_reducible refine LeO.ite ?_ ?_)
      | (with_reducible refine LeO.bind ?_ (fun _ => ?_))
      | exact ih0 _ _ _ _ _ _ _
      | exact ih1 _ _ _ _ _ _ _ _ _
      | exact ih2 _
      | exact rollcalllaw04_live.mono _
      | exact value_Put.mono _ _ _ _ _
      | exact value_Take.mono _ _ _
      | exact LeO.none _
      | refine LeO.ite ?_ ?_
      | refine LeO.bind ?_ (fun _ => ?_)
set_option maxHeartbeats 8000000 in
set_option maxRecDepth 100000 in
theorem rollcalllaw04_ValueBack.calls (k : Nat) (a0_0 : Int) (a0_1 : Int) (a0_2 : Int) (a0_3 : ByteArray) (a1 : ByteArray) (a2 : ByteArray) (r : Bool) (hT_ : r = true) (w : World) (h : rollcalllaw04_ValueBack.f k a0_0 a0_1 a0_2 a0_3 a1 a2 = some r) :
    Calls Try.prog 5 #[.agg #[.int .i64 a0_0, .int .i64 a0_1, .int .i64 a0_2, .string a0_3], .string a1, .string a2] w fun e w' => e = .returned (.bool r) ∧ Below w.heap.size w w' := by
  have hu23 := Try.underlying23
  have HT := Aside0.mk hT_
  clear hT_
  have HB := Aside0.mk (Below.refl w.heap.size w)
  have H : (if (a0_3.size : Int) > 300 then (rollcalllaw04_ValueBack.j0 k a1 a2 true a0_0 a0_1 a0_2 a0_3) else (if (a1.size : Int) > 300 then (rollcalllaw04_ValueBack.j0 k a1 a2 true a0_0 a0_1 a0_2 a0_3) else (rollcalllaw04_ValueBack.j0 k a1 a2 (decide ((a2.size : Int) > 300)) a0_0 a0_1 a0_2 a0_3))) = some r := h
  clear h
  have HC4 := Aside0.mk H
  clear H
  go_enter Try.func5, Try.ntmps5
  go_upto_region 1 with (first | ((with_reducible refine gate_dst (N := 3) rfl ?_); (try (refine gate_guard (by rfl) ?_; dsimp only)); refine box_event ?hg (N := 3) ?hd (cs := #[.int .i64 a0_0, .int .i64 a0_1, .int .i64 a0_2, .string a0_3]) (t := 23) ?hr ?_; (case hd => rfl); (case hg => rfl); (case hr => first | (go_simp; done) | (go_simp; rfl)); intro gb235 hg w5 hbox hb; have n0_ := Aside0.mk (below_step (by repeat (first | (with_reducible first | exact HB.out | apply below_alloc | apply pw_below_drewN | apply below_drew1) | exact HB.out)) hb); have n1_ := Aside0.mk (hbox); have n2_ := Aside0.mk ((by rw [hg]; exact (below_size (by repeat (first | (with_reducible first | exact HB.out | apply below_alloc | apply pw_below_drewN | apply below_drew1) | exact HB.out))) : w.heap.size ≤ gb235)); have n3_ := Aside0.mk ((by rw [hg]; exact (below_size (by repeat (first | (with_reducible first | exact HB.out | apply below_alloc | apply pw_below_drewN | apply below_drew1) | exact HB.out))) : w.heap.size ≤ gb235)); clear HB; have HB := n0_; have BK235 := n1_; have GW235 := n2_; have GE235 := n3_; clear n0_ n1_ n2_ n3_; clear hb hbox hg))
  (try simp only [Act.put, List.setIfInBounds_toArray, List.set_cons_zero, List.set_cons_succ])
  go_cut [30] (fun v30 wc => ∃ (kq : Nat) (x30_3 : Bool), v30 = .bool x30_3 ∧ Aside0 (rollcalllaw04_ValueBack.j0 kq a1 a2 x30_3 a0_0 a0_1 a0_2 a0_3 = some r) ∧ Aside0 (kq ≤ k) ∧ Aside0 (wc.heap[gb235]? = some (.cells #[.int .i64 a0_0, .int .i64 a0_1, .int .i64 a0_2, .string a0_3] 23 (0, 0))) ∧ Aside0 (Below w.heap.size w wc))
  case first =>
    have H := HC4.out
    clear HC4
    by_cases c6 : (a0_3.size : Int) > 300
    · rw [if_pos c6] at H
      have c6b0 : decide (300 < (a0_3.size : Int)) = true := decide_eq_true c6
      have c6b1 : decide (300 < a0_3.size) = true := decide_eq_true (by omega)
      clear c6
      (first | rw [c6b0] | (simp only [i64_w, i32_w]; rw [c6b0]) | skip)
      have H' := Aside0.mk H
      clear H
      have hcz7_0 : w5.cell? ⟨gb235, 0, none⟩ = some (.int .i64 a0_0) := (blk_cell BK235.out 0).trans rfl
      have hcz7_1 : w5.cell? ⟨gb235, 1, none⟩ = some (.int .i64 a0_1) := (blk_cell BK235.out 1).trans rfl
      have hcz7_2 : w5.cell? ⟨gb235, 2, none⟩ = some (.int .i64 a0_2) := (blk_cell BK235.out 2).trans rfl
      have hcz7_3 : w5.cell? ⟨gb235, 3, none⟩ = some (.string a0_3) := (blk_cell BK235.out 3).trans rfl
      have hfz7_0 := blk_frozen BK235.out 0
      have hfz7_1 := blk_frozen BK235.out 1
      have hfz7_2 := blk_frozen BK235.out 2
      have hfz7_3 := blk_frozen BK235.out 3
      go_wp2
      go_meet
      case rel => exact ⟨_, (true), (by first | rfl | (simp; done) | (simp [*]; done)), H', ⟨by first | omega | exact Nat.le_refl _⟩, ⟨by (with_reducible repeat (first | refine blk_drewN ?_ _ | refine blk_drew ?_ | refine blk_alloc ?_ _)); exact BK235.out⟩, ⟨by repeat (first | (with_reducible first | exact HB.out | apply below_alloc | apply pw_below_drewN | apply below_drew1 | refine below_set ?_ GE235.out) | exact HB.out)⟩⟩
    · rw [if_neg c6] at H
      have c6b0 : decide (300 < (a0_3.size : Int)) = false := decide_eq_false c6
      have c6b1 : decide (300 < a0_3.size) = false := decide_eq_false (by omega)
      clear c6
      (first | rw [c6b0] | (simp only [i64_w, i32_w]; rw [c6b0]) | skip)
      by_cases c8 : (a1.size : Int) > 300
      · rw [if_pos c8] at H
        have c8b0 : decide (300 < (a1.size : Int)) = true := decide_eq_true c8
        have c8b1 : decide (300 < a1.size) = true := decide_eq_true (by omega)
        clear c8
        have H' := Aside0.mk H
        clear H
        have hcz9_0 : w5.cell? ⟨gb235, 0, none⟩ = some (.int .i64 a0_0) := (blk_cell BK235.out 0).trans rfl
        have hcz9_1 : w5.cell? ⟨gb235, 1, none⟩ = some (.int .i64 a0_1) := (blk_cell BK235.out 1).trans rfl
        have hcz9_2 : w5.cell? ⟨gb235, 2, none⟩ = some (.int .i64 a0_2) := (blk_cell BK235.out 2).trans rfl
        have hcz9_3 : w5.cell? ⟨gb235, 3, none⟩ = some (.string a0_3) := (blk_cell BK235.out 3).trans rfl
        have hfz9_0 := blk_frozen BK235.out 0
        have hfz9_1 := blk_frozen BK235.out 1
        have hfz9_2 := blk_frozen BK235.out 2
        have hfz9_3 := blk_frozen BK235.out 3
        go_wp2
        go_meet
        case rel => exact ⟨_, (true), (by first | rfl | (simp; done) | (simp [*]; done)), H', ⟨by first | omega | exact Nat.le_refl _⟩, ⟨by (with_reducible repeat (first | refine blk_drewN ?_ _ | refine blk_drew ?_ | refine blk_alloc ?_ _)); exact BK235.out⟩, ⟨by repeat (first | (with_reducible first | exact HB.out | apply below_alloc | apply pw_below_drewN | apply below_drew1 | refine below_set ?_ GE235.out) | exact HB.out)⟩⟩
      · rw [if_neg c8] at H
        have c8b0 : decide (300 < (a1.size : Int)) = false := decide_eq_false c8
        have c8b1 : decide (300 < a1.size) = false := decide_eq_false (by omega)
        clear c8
        have H' := Aside0.mk H
        clear H
        have hcz10_0 : w5.cell? ⟨gb235, 0, none⟩ = some (.int .i64 a0_0) := (blk_cell BK235.out 0).trans rfl
        have hcz10_1 : w5.cell? ⟨gb235, 1, none⟩ = some (.int .i64 a0_1) := (blk_cell BK235.out 1).trans rfl
        have hcz10_2 : w5.cell? ⟨gb235, 2, none⟩ = some (.int .i64 a0_2) := (blk_cell BK235.out 2).trans rfl
        have hcz10_3 : w5.cell? ⟨gb235, 3, none⟩ = some (.string a0_3) := (blk_cell BK235.out 3).trans rfl
        have hfz10_0 := blk_frozen BK235.out 0
        have hfz10_1 := blk_frozen BK235.out 1
        have hfz10_2 := blk_frozen BK235.out 2
        have hfz10_3 := blk_frozen BK235.out 3
        go_wp2
        go_meet
        case rel => exact ⟨_, (decide ((a2.size : Int) > 300)), (by first | rfl | (simp; done) | (simp [*]; done)), H', ⟨by first | omega | exact Nat.le_refl _⟩, ⟨by (with_reducible repeat (first | refine blk_drewN ?_ _ | refine blk_drew ?_ | refine blk_alloc ?_ _)); exact BK235.out⟩, ⟨by repeat (first | (with_reducible first | exact HB.out | apply below_alloc | apply pw_below_drewN | apply below_drew1 | refine below_set ?_ GE235.out) | exact HB.out)⟩⟩
  case rest =>
    clear HC4
    try clear p2
    try clear c5
    try clear c6
    try clear c6b0
    try clear c6b1
    try clear c8
    try clear c8b0
    try clear c8b1
    try clear hcz10_0
    try clear hcz10_1
    try clear hcz10_2
    try clear hcz10_3
    try clear hcz7_0
    try clear hcz7_1
    try clear hcz7_2
    try clear hcz7_3
    try clear hcz9_0
    try clear hcz9_1
    try clear hcz9_2
    try clear hcz9_3
    try clear hfz10_0
    try clear hfz10_1
    try clear hfz10_2
    try clear hfz10_3
    try clear hfz7_0
    try clear hfz7_1
    try clear hfz7_2
    try clear hfz7_3
    try clear hfz9_0
    try clear hfz9_1
    try clear hfz9_2
    try clear hfz9_3
    obtain ⟨kq, x30_3, rfl, HA, HJ3, BK235, HB⟩ := hcut
    cases kq with
    | zero => exact absurd HA.out (by simp [rollcalllaw04_ValueBack.j0])
    | succ kj3 =>
      have H := HA.out
      clear HA
      simp only [rollcalllaw04_ValueBack.j0] at H
      by_cases c11 : x30_3 = true
      · subst c11
        have H1 : ((rollcalllaw04_live.f kj3).bind fun t236 => (some t236)) = some r := by rw [if_pos rfl] at H; exact H
        clear H
        have H := H1
        clear H1
        replace H := Option.bind_eq_some_iff.mp H
        obtain ⟨t236, A120, H⟩ := H
        replace H : (some t236) = some r := H
        have A12 := Aside0.mk A120
        clear A120
        obtain rfl := Option.some.inj H
        go_wp2_with (first | ((with_reducible refine gate_callee (f := 8) rfl ?_); refine goesL_ (some 31) rfl rfl Try.func8 (by kernel_rfl) rfl #[] rfl (by (try simp only [List.map_toArray, List.map_cons, List.map_nil]); first | done | rfl | (simp only [List.length_drop, List.length_take]; rfl)) ?_; (with_reducible refine (rollcalllaw04_live.calls kj3  t236 _ A12.out).mono ?_); rintro e w13 ⟨rfl, hb⟩; refine ⟨_, rfl, ?_⟩; have n0_ := Aside0.mk (blk_below (g := gb235) (o := .cells #[.int .i64 a0_0, .int .i64 a0_1, .int .i64 a0_2, .string a0_3] 23 (0, 0)) (by (with_reducible repeat (first | refine blk_drewN ?_ _ | refine blk_drew ?_ | refine blk_alloc ?_ _)); exact BK235.out) hb); have n1_ := Aside0.mk (below_step (by repeat (first | (with_reducible first | exact HB.out | apply below_alloc | apply pw_below_drewN | apply below_drew1 | refine below_set ?_ GE235.out) | exact HB.out)) hb); clear BK235; clear HB; have BK235 := n0_; have HB := n1_; clear n0_ n1_; (try clear hb); (try clear hb2); (try clear hk); (try clear hi)))
        go_ret
        exact ⟨by first | rfl | (simp [errW_none, errW_some] <;> rfl) | (simp [*, errW_none, errW_some] <;> rfl), by repeat (first | (with_reducible first | exact HB.out | apply below_alloc | apply pw_below_drewN | apply below_drew1 | refine below_set ?_ GE235.out) | exact HB.out)⟩
      · replace c11 := Bool.eq_false_iff.mpr c11
        subst c11
        have H1 : ((value_Put.f kj3 a0_0 a0_1 a0_2 a0_3).bind fun bt237 => ((value_May.f a0_0 a0_1 a0_2 a0_3).bind fun t239 => (if (bt237.2 != t239) = true then (rollcalllaw04_ValueBack.j1 kj3 a1 a2 bt237.1 bt237.2 true a0_0 a0_1 a0_2 a0_3) else (if bt237.2 = true then (rollcalllaw04_ValueBack.j1 kj3 a1 a2 bt237.1 bt237.2 false a0_0 a0_1 a0_2 a0_3) else (rollcalllaw04_ValueBack.j1 kj3 a1 a2 bt237.1 bt237.2 (bt237.1.toList != ([] : List UInt8)) a0_0 a0_1 a0_2 a0_3))))) = some r := by rw [if_neg (show ¬ (false = true) by decide)] at H; exact H
        clear H
        have H := H1
        clear H1
        replace H := Option.bind_eq_some_iff.mp H
        obtain ⟨⟨t237, t238⟩, A140, H⟩ := H
        replace H : ((value_May.f a0_0 a0_1 a0_2 a0_3).bind fun t239 => (if (t238 != t239) = true then (rollcalllaw04_ValueBack.j1 kj3 a1 a2 t237 t238 true a0_0 a0_1 a0_2 a0_3) else (if t238 = true then (rollcalllaw04_ValueBack.j1 kj3 a1 a2 t237 t238 false a0_0 a0_1 a0_2 a0_3) else (rollcalllaw04_ValueBack.j1 kj3 a1 a2 t237 t238 (t237.toList != ([] : List UInt8)) a0_0 a0_1 a0_2 a0_3)))) = some r := H
        have A14 := Aside0.mk A140
        clear A140
        have HC15 := Aside0.mk H
        clear H
        have hcz16_0 : wc.cell? ⟨gb235, 0, none⟩ = some (.int .i64 a0_0) := (blk_cell BK235.out 0).trans rfl
        have hcz16_1 : wc.cell? ⟨gb235, 1, none⟩ = some (.int .i64 a0_1) := (blk_cell BK235.out 1).trans rfl
        have hcz16_2 : wc.cell? ⟨gb235, 2, none⟩ = some (.int .i64 a0_2) := (blk_cell BK235.out 2).trans rfl
        have hcz16_3 : wc.cell? ⟨gb235, 3, none⟩ = some (.string a0_3) := (blk_cell BK235.out 3).trans rfl
        have hfz16_0 := blk_frozen BK235.out 0
        have hfz16_1 := blk_frozen BK235.out 1
        have hfz16_2 := blk_frozen BK235.out 2
        have hfz16_3 := blk_frozen BK235.out 3
        go_upto_region 4 with (first | ((with_reducible refine gate_callee (f := 9) rfl ?_); refine goesL_ (some 34) rfl rfl Try.func9 (by kernel_rfl) rfl #[.agg #[.int .i64 a0_0, .int .i64 a0_1, .int .i64 a0_2, .string a0_3]] rfl (by (try simp only [List.map_toArray, List.map_cons, List.map_nil]); first | done | rfl | (simp only [List.length_drop, List.length_take]; rfl)) ?_; (with_reducible refine (value_Put.calls kj3 a0_0 a0_1 a0_2 a0_3 t237 t238 _ A14.out).mono ?_); rintro e w17 ⟨rfl, hb⟩; refine ⟨_, rfl, ?_⟩; have n0_ := Aside0.mk (blk_below (g := gb235) (o := .cells #[.int .i64 a0_0, .int .i64 a0_1, .int .i64 a0_2, .string a0_3] 23 (0, 0)) (by (with_reducible repeat (first | refine blk_drewN ?_ _ | refine blk_drew ?_ | refine blk_alloc ?_ _)); exact BK235.out) hb); have n1_ := Aside0.mk (below_step (by repeat (first | (with_reducible first | exact HB.out | apply below_alloc | apply pw_below_drewN | apply below_drew1 | refine below_set ?_ GE235.out) | exact HB.out)) hb); clear BK235; clear HB; have BK235 := n0_; have HB := n1_; clear n0_ n1_; (try clear hb); (try clear hb2); (try clear hk); (try clear hi)))
        (try simp only [Act.put, List.setIfInBounds_toArray, List.set_cons_zero, List.set_cons_succ])
        go_cut [48] (fun v48 wc => ∃ (kq : Nat) (x48_14 : Bool), v48 = .bool x48_14 ∧ Aside0 (rollcalllaw04_ValueBack.j1 kq a1 a2 t237 t238 x48_14 a0_0 a0_1 a0_2 a0_3 = some r) ∧ Aside0 (kq ≤ kj3) ∧ Aside0 (wc.heap[gb235]? = some (.cells #[.int .i64 a0_0, .int .i64 a0_1, .int .i64 a0_2, .string a0_3] 23 (0, 0))) ∧ Aside0 (Below w.heap.size w wc))
        case first =>
          have H := HC15.out
          clear HC15
          replace H := Option.bind_eq_some_iff.mp H
          obtain ⟨t239, A180, H⟩ := H
          replace H : (if (t238 != t239) = true then (rollcalllaw04_ValueBack.j1 kj3 a1 a2 t237 t238 true a0_0 a0_1 a0_2 a0_3) else (if t238 = true then (rollcalllaw04_ValueBack.j1 kj3 a1 a2 t237 t238 false a0_0 a0_1 a0_2 a0_3) else (rollcalllaw04_ValueBack.j1 kj3 a1 a2 t237 t238 (t237.toList != ([] : List UInt8)) a0_0 a0_1 a0_2 a0_3))) = some r := H
          have A18 := Aside0.mk A180
          clear A180
          by_cases c19 : (t238 != t239) = true
          · rw [if_pos c19] at H
            have c19b0 : (t238 != t239) = true := c19
            (try (have c19b1 : decide (t238 = t239) = false := by simpa using c19))
            (try (have c19b2 : (t238 == t239) = false := by simpa using c19))
            (try (have c19b3 : ¬ (t238 = t239) := by simpa using c19))
            clear c19
            (first | rw [c19b0] | (simp only [i64_w, i32_w]; rw [c19b0]) | skip)
            have H' := Aside0.mk H
            clear H
            have hcz20_0 : w17.cell? ⟨gb235, 0, none⟩ = some (.int .i64 a0_0) := (blk_cell BK235.out 0).trans rfl
            have hcz20_1 : w17.cell? ⟨gb235, 1, none⟩ = some (.int .i64 a0_1) := (blk_cell BK235.out 1).trans rfl
            have hcz20_2 : w17.cell? ⟨gb235, 2, none⟩ = some (.int .i64 a0_2) := (blk_cell BK235.out 2).trans rfl
            have hcz20_3 : w17.cell? ⟨gb235, 3, none⟩ = some (.string a0_3) := (blk_cell BK235.out 3).trans rfl
            have hfz20_0 := blk_frozen BK235.out 0
            have hfz20_1 := blk_frozen BK235.out 1
            have hfz20_2 := blk_frozen BK235.out 2
            have hfz20_3 := blk_frozen BK235.out 3
            go_wp2_with (first | ((with_reducible refine gate_callee (f := 15) rfl ?_); refine goesL_ (some 39) rfl rfl Try.func15 (by kernel_rfl) rfl #[.agg #[.int .i64 a0_0, .int .i64 a0_1, .int .i64 a0_2, .string a0_3]] rfl (by (try simp only [List.map_toArray, List.map_cons, List.map_nil]); first | done | rfl | (simp only [List.length_drop, List.length_take]; rfl)) ?_; (with_reducible refine (value_May.calls a0_0 a0_1 a0_2 a0_3 t239 _ A18.out).mono ?_); rintro e w21 ⟨rfl, hb⟩; refine ⟨_, rfl, ?_⟩; have n0_ := Aside0.mk (blk_below (g := gb235) (o := .cells #[.int .i64 a0_0, .int .i64 a0_1, .int .i64 a0_2, .string a0_3] 23 (0, 0)) (by (with_reducible repeat (first | refine blk_drewN ?_ _ | refine blk_drew ?_ | refine blk_alloc ?_ _)); exact BK235.out) hb); have n1_ := Aside0.mk (below_step (by repeat (first | (with_reducible first | exact HB.out | apply below_alloc | apply pw_below_drewN | apply below_drew1 | refine below_set ?_ GE235.out) | exact HB.out)) hb); clear BK235; clear HB; have BK235 := n0_; have HB := n1_; clear n0_ n1_; (try clear hb); (try clear hb2); (try clear hk); (try clear hi)))
            go_meet
            case rel => exact ⟨_, (true), (by first | rfl | (simp; done) | (simp [*]; done)), H', ⟨by have := HJ3.out; first | omega | exact Nat.le_refl _⟩, ⟨by (with_reducible repeat (first | refine blk_drewN ?_ _ | refine blk_drew ?_ | refine blk_alloc ?_ _)); exact BK235.out⟩, ⟨by repeat (first | (with_reducible first | exact HB.out | apply below_alloc | apply pw_below_drewN | apply below_drew1 | refine below_set ?_ GE235.out) | exact HB.out)⟩⟩
          · rw [if_neg c19] at H
            have c19b0 : (t238 != t239) = false := by simpa using c19
            (try (have c19b1 : decide (t238 = t239) = true := by simpa using c19))
            (try (have c19b2 : (t238 == t239) = true := by simpa using c19))
            clear c19
            (first | rw [c19b0] | (simp only [i64_w, i32_w]; rw [c19b0]) | skip)
            by_cases c22 : t238 = true
            · subst c22
              have H1 : (rollcalllaw04_ValueBack.j1 kj3 a1 a2 t237 true false a0_0 a0_1 a0_2 a0_3) = some r := by rw [if_pos rfl] at H; exact H
              clear H
              have H := H1
              clear H1
              have H' := Aside0.mk H
              clear H
              have hcz23_0 : w17.cell? ⟨gb235, 0, none⟩ = some (.int .i64 a0_0) := (blk_cell BK235.out 0).trans rfl
              have hcz23_1 : w17.cell? ⟨gb235, 1, none⟩ = some (.int .i64 a0_1) := (blk_cell BK235.out 1).trans rfl
              have hcz23_2 : w17.cell? ⟨gb235, 2, none⟩ = some (.int .i64 a0_2) := (blk_cell BK235.out 2).trans rfl
              have hcz23_3 : w17.cell? ⟨gb235, 3, none⟩ = some (.string a0_3) := (blk_cell BK235.out 3).trans rfl
              have hfz23_0 := blk_frozen BK235.out 0
              have hfz23_1 := blk_frozen BK235.out 1
              have hfz23_2 := blk_frozen BK235.out 2
              have hfz23_3 := blk_frozen BK235.out 3
              go_wp2_with (first | ((with_reducible refine gate_callee (f := 15) rfl ?_); refine goesL_ (some 39) rfl rfl Try.func15 (by kernel_rfl) rfl #[.agg #[.int .i64 a0_0, .int .i64 a0_1, .int .i64 a0_2, .string a0_3]] rfl (by (try simp only [List.map_toArray, List.map_cons, List.map_nil]); first | done | rfl | (simp only [List.length_drop, List.length_take]; rfl)) ?_; (with_reducible refine (value_May.calls a0_0 a0_1 a0_2 a0_3 t239 _ A18.out).mono ?_); rintro e w24 ⟨rfl, hb⟩; refine ⟨_, rfl, ?_⟩; have n0_ := Aside0.mk (blk_below (g := gb235) (o := .cells #[.int .i64 a0_0, .int .i64 a0_1, .int .i64 a0_2, .string a0_3] 23 (0, 0)) (by (with_reducible repeat (first | refine blk_drewN ?_ _ | refine blk_drew ?_ | refine blk_alloc ?_ _)); exact BK235.out) hb); have n1_ := Aside0.mk (below_step (by repeat (first | (with_reducible first | exact HB.out | apply below_alloc | apply pw_below_drewN | apply below_drew1 | refine below_set ?_ GE235.out) | exact HB.out)) hb); clear BK235; clear HB; have BK235 := n0_; have HB := n1_; clear n0_ n1_; (try clear hb); (try clear hb2); (try clear hk); (try clear hi)))
              go_meet
              case rel => exact ⟨_, (false), (by first | rfl | (simp; done) | (simp [*]; done)), H', ⟨by have := HJ3.out; first | omega | exact Nat.le_refl _⟩, ⟨by (with_reducible repeat (first | refine blk_drewN ?_ _ | refine blk_drew ?_ | refine blk_alloc ?_ _)); exact BK235.out⟩, ⟨by repeat (first | (with_reducible first | exact HB.out | apply below_alloc | apply pw_below_drewN | apply below_drew1 | refine below_set ?_ GE235.out) | exact HB.out)⟩⟩
            · replace c22 := Bool.eq_false_iff.mpr c22
              subst c22
              have H1 : (rollcalllaw04_ValueBack.j1 kj3 a1 a2 t237 false (t237.toList != ([] : List UInt8)) a0_0 a0_1 a0_2 a0_3) = some r := by rw [if_neg (show ¬ (false = true) by decide)] at H; exact H
              clear H
              have H := H1
              clear H1
              have H' := Aside0.mk H
              clear H
              have hcz25_0 : w17.cell? ⟨gb235, 0, none⟩ = some (.int .i64 a0_0) := (blk_cell BK235.out 0).trans rfl
              have hcz25_1 : w17.cell? ⟨gb235, 1, none⟩ = some (.int .i64 a0_1) := (blk_cell BK235.out 1).trans rfl
              have hcz25_2 : w17.cell? ⟨gb235, 2, none⟩ = some (.int .i64 a0_2) := (blk_cell BK235.out 2).trans rfl
              have hcz25_3 : w17.cell? ⟨gb235, 3, none⟩ = some (.string a0_3) := (blk_cell BK235.out 3).trans rfl
              have hfz25_0 := blk_frozen BK235.out 0
              have hfz25_1 := blk_frozen BK235.out 1
              have hfz25_2 := blk_frozen BK235.out 2
              have hfz25_3 := blk_frozen BK235.out 3
              go_wp2_with (first | ((with_reducible refine gate_callee (f := 15) rfl ?_); refine goesL_ (some 39) rfl rfl Try.func15 (by kernel_rfl) rfl #[.agg #[.int .i64 a0_0, .int .i64 a0_1, .int .i64 a0_2, .string a0_3]] rfl (by (try simp only [List.map_toArray, List.map_cons, List.map_nil]); first | done | rfl | (simp only [List.length_drop, List.length_take]; rfl)) ?_; (with_reducible refine (value_May.calls a0_0 a0_1 a0_2 a0_3 t239 _ A18.out).mono ?_); rintro e w26 ⟨rfl, hb⟩; refine ⟨_, rfl, ?_⟩; have n0_ := Aside0.mk (blk_below (g := gb235) (o := .cells #[.int .i64 a0_0, .int .i64 a0_1, .int .i64 a0_2, .string a0_3] 23 (0, 0)) (by (with_reducible repeat (first | refine blk_drewN ?_ _ | refine blk_drew ?_ | refine blk_alloc ?_ _)); exact BK235.out) hb); have n1_ := Aside0.mk (below_step (by repeat (first | (with_reducible first | exact HB.out | apply below_alloc | apply pw_below_drewN | apply below_drew1 | refine below_set ?_ GE235.out) | exact HB.out)) hb); clear BK235; clear HB; have BK235 := n0_; have HB := n1_; clear n0_ n1_; (try clear hb); (try clear hb2); (try clear hk); (try clear hi)))
              go_meet
              case rel => exact ⟨_, ((t237.toList != ([] : List UInt8))), (by first | rfl | (simp; done) | (simp [bne]; done) | (simp [*]; done)), H', ⟨by have := HJ3.out; first | omega | exact Nat.le_refl _⟩, ⟨by (with_reducible repeat (first | refine blk_drewN ?_ _ | refine blk_drew ?_ | refine blk_alloc ?_ _)); exact BK235.out⟩, ⟨by repeat (first | (with_reducible first | exact HB.out | apply below_alloc | apply pw_below_drewN | apply below_drew1 | refine below_set ?_ GE235.out) | exact HB.out)⟩⟩
        case rest =>
          clear HC15
          try clear c1
          try clear c2
          try clear p2
          try clear c5
          try clear c6
          try clear c6b0
          try clear c6b1
          try clear c8
          try clear c8b0
          try clear c8b1
          try clear c9
          try clear c11
          try clear c15
          try clear c19
          try clear c19b0
          try clear c19b1
          try clear c19b2
          try clear c22
          try clear hcz10_0
          try clear hcz10_1
          try clear hcz10_2
          try clear hcz10_3
          try clear hcz16_0
          try clear hcz16_1
          try clear hcz16_2
          try clear hcz16_3
          try clear hcz20_0
          try clear hcz20_1
          try clear hcz20_2
          try clear hcz20_3
          try clear hcz23_0
          try clear hcz23_1
          try clear hcz23_2
          try clear hcz23_3
          try clear hcz25_0
          try clear hcz25_1
          try clear hcz25_2
          try clear hcz25_3
          try clear hcz7_0
          try clear hcz7_1
          try clear hcz7_2
          try clear hcz7_3
          try clear hcz9_0
          try clear hcz9_1
          try clear hcz9_2
          try clear hcz9_3
          try clear hfz10_0
          try clear hfz10_1
          try clear hfz10_2
          try clear hfz10_3
          try clear hfz16_0
          try clear hfz16_1
          try clear hfz16_2
          try clear hfz16_3
          try clear hfz20_0
          try clear hfz20_1
          try clear hfz20_2
          try clear hfz20_3
          try clear hfz23_0
          try clear hfz23_1
          try clear hfz23_2
          try clear hfz23_3
          try clear hfz25_0
          try clear hfz25_1
          try clear hfz25_2
          try clear hfz25_3
          try clear hfz7_0
          try clear hfz7_1
          try clear hfz7_2
          try clear hfz7_3
          try clear hfz9_0
          try clear hfz9_1
          try clear hfz9_2
          try clear hfz9_3
          try clear p2
          obtain ⟨kq, x48_14, rfl, HA, HJ14, BK235, HB⟩ := hcut
          cases kq with
          | zero => exact absurd HA.out (by simp [rollcalllaw04_ValueBack.j1])
          | succ kj14 =>
            have H := HA.out
            clear HA
            simp only [rollcalllaw04_ValueBack.j1] at H
            by_cases c27 : x48_14 = true
            · subst c27
              have H1 : (some false) = some r := by rw [if_pos rfl] at H; exact H
              clear H
              have H := H1
              clear H1
              exact absurd ((Option.some.inj H).trans HT.out) (by simp)
            · replace c27 := Bool.eq_false_iff.mpr c27
              subst c27
              have H1 : (if t238 = true then (if a1.size + t237.size ≤ 9223372036854775807 then (if (a1 ++ t237).size + a2.size ≤ 9223372036854775807 then ((value_Take.f kj14 ((a1 ++ t237) ++ a2) (a1.size : Int)).bind fun bt240 => (if bt240.2.2.2.2.2 = 0 then (if (!(bt240.1 == a0_0) || (!(bt240.2.1 == a0_1) || (!(bt240.2.2.1 == a0_2) || (!(bt240.2.2.2.1.toList == a0_3.toList))))) = true then (some false) else (if bt240.2.2.2.2.1 = (wrap64 ((a1.size : Int) + (t237.size : Int))) then (rollcalllaw04_ValueBack.j2 kj14 a2) else (some false))) else (some false))) else (none)) else (none)) else (rollcalllaw04_ValueBack.j2 kj14 a2)) = some r := by rw [if_neg (show ¬ (false = true) by decide)] at H; exact H
              clear H
              have H := H1
              clear H1
              have HC28 := Aside0.mk H
              clear H
              go_upto_if 49 with (fail)
              go_cut [] (fun wc => ∃ (kq : Nat), Aside0 (rollcalllaw04_ValueBack.j2 kq a2 = some r) ∧ Aside0 (kq ≤ kj14) ∧ Aside0 (wc.heap[gb235]? = some (.cells #[.int .i64 a0_0, .int .i64 a0_1, .int .i64 a0_2, .string a0_3] 23 (0, 0))) ∧ Aside0 (Below w.heap.size w wc))
              case first =>
                have H := HC28.out
                clear HC28
                by_cases c29 : t238 = true
                · subst c29
                  have H1 : (if a1.size + t237.size ≤ 9223372036854775807 then (if (a1 ++ t237).size + a2.size ≤ 9223372036854775807 then ((value_Take.f kj14 ((a1 ++ t237) ++ a2) (a1.size : Int)).bind fun bt240 => (if bt240.2.2.2.2.2 = 0 then (if (!(bt240.1 == a0_0) || (!(bt240.2.1 == a0_1) || (!(bt240.2.2.1 == a0_2) || (!(bt240.2.2.2.1.toList == a0_3.toList))))) = true then (some false) else (if bt240.2.2.2.2.1 = (wrap64 ((a1.size : Int) + (t237.size : Int))) then (rollcalllaw04_ValueBack.j2 kj14 a2) else (some false))) else (some false))) else (none)) else (none)) = some r := by rw [if_pos rfl] at H; exact H
                  clear H
                  have H := H1
                  clear H1
                  by_cases c30 : a1.size + t237.size ≤ 9223372036854775807
                  · rw [if_pos c30] at H
                    have c30b0 := eq_true c30
                    have c30b1 : decide (a1.size + t237.size ≤ 9223372036854775807) = true := decide_eq_true c30
                    try have c30b2 : (9223372036854775807 < a1.size + t237.size) = False := eq_false (Nat.not_lt.2 c30)
                    (try (have c30b3 := c30b0; simp only [ByteArray.size_append] at c30b3))
                    (try (have c30b4 := c30b2; simp only [ByteArray.size_append] at c30b4))
                    clear c30
                    by_cases c31 : (a1 ++ t237).size + a2.size ≤ 9223372036854775807
                    · rw [if_pos c31] at H
                      have c31b0 := eq_true c31
                      have c31b1 : decide ((a1 ++ t237).size + a2.size ≤ 9223372036854775807) = true := decide_eq_true c31
                      try have c31b2 : (9223372036854775807 < (a1 ++ t237).size + a2.size) = False := eq_false (Nat.not_lt.2 c31)
                      (try (have c31b3 := c31b0; simp only [ByteArray.size_append] at c31b3))
                      (try (have c31b4 := c31b2; simp only [ByteArray.size_append] at c31b4))
                      clear c31
                      replace H := Option.bind_eq_some_iff.mp H
                      obtain ⟨⟨t240, t241, t242, t243, t244, t245⟩, A320, H⟩ := H
                      replace H : (if t245 = 0 then (if (!(t240 == a0_0) || (!(t241 == a0_1) || (!(t242 == a0_2) || (!(t243.toList == a0_3.toList))))) = true then (some false) else (if t244 = (wrap64 ((a1.size : Int) + (t237.size : Int))) then (rollcalllaw04_ValueBack.j2 kj14 a2) else (some false))) else (some false)) = some r := H
                      have A32 := Aside0.mk A320
                      clear A320
                      by_cases c33 : t245 = 0
                      · rw [if_pos c33] at H
                        have c33b0 : (t245 == 0) = true := beq_iff_eq.mpr c33
                        have c33b1 : (t245 != 0) = false := bne_eq_false_iff_eq.mpr c33
                        clear c33
                        (first | rw [c33b0] | (simp only [i64_w, i32_w]; rw [c33b0]) | skip)
                        by_cases c34 : (!(t240 == a0_0) || (!(t241 == a0_1) || (!(t242 == a0_2) || (!(t243.toList == a0_3.toList))))) = true
                        · rw [if_pos c34] at H
                          have c34b0 : (!(t240 == a0_0) || (!(t241 == a0_1) || (!(t242 == a0_2) || (!(t243.toList == a0_3.toList))))) = true := c34
                          clear c34
                          exact absurd ((Option.some.inj H).trans HT.out) (by simp)
                        · rw [if_neg c34] at H
                          have c34b0 : (!(t240 == a0_0) || (!(t241 == a0_1) || (!(t242 == a0_2) || (!(t243.toList == a0_3.toList))))) = false := by simpa using c34
                          clear c34
                          by_cases c35 : t244 = (wrap64 ((a1.size : Int) + (t237.size : Int)))
                          · rw [if_pos c35] at H
                            have c35b0 : (t244 == (wrap64 ((a1.size : Int) + (t237.size : Int)))) = true := beq_iff_eq.mpr c35
                            have c35b1 : (t244 != (wrap64 ((a1.size : Int) + (t237.size : Int)))) = false := bne_eq_false_iff_eq.mpr c35
                            clear c35
                            have H' := Aside0.mk H
                            clear H
                            go_wp2_with (first | ((with_reducible refine gate_callee (f := 17) rfl ?_); refine goesL_ (some 58) rfl rfl Try.func17 (by kernel_rfl) rfl #[.string ((a1 ++ t237) ++ a2), .int .i64 (a1.size : Int)] rfl (by (try simp only [List.map_toArray, List.map_cons, List.map_nil]); first | done | rfl | (simp only [List.length_drop, List.length_take]; rfl)) ?_; (with_reducible refine (value_Take.calls kj14 ((a1 ++ t237) ++ a2) (a1.size : Int) t240 t241 t242 t243 t244 t245 _ A32.out).mono ?_); rintro e w36 ⟨rfl, hb⟩; refine ⟨_, rfl, ?_⟩; have n0_ := Aside0.mk (blk_below (g := gb235) (o := .cells #[.int .i64 a0_0, .int .i64 a0_1, .int .i64 a0_2, .string a0_3] 23 (0, 0)) (by (with_reducible repeat (first | refine blk_drewN ?_ _ | refine blk_drew ?_ | refine blk_alloc ?_ _)); exact BK235.out) hb); have n1_ := Aside0.mk (below_step (by repeat (first | (with_reducible first | exact HB.out | apply below_alloc | apply pw_below_drewN | apply below_drew1 | refine below_set ?_ GE235.out) | exact HB.out)) hb); clear BK235; clear HB; have BK235 := n0_; have HB := n1_; clear n0_ n1_; (try clear hb); (try clear hb2); (try clear hk); (try clear hi)) | ((with_reducible refine gate_dst (N := 9) rfl ?_); (try (refine gate_guard (by rfl) ?_; dsimp only)); refine box_event ?hg (N := 9) ?hd (cs := #[.int .i64 0, .int .i64 0, .int .i64 0, .string (⟨#[]⟩ : ByteArray)]) (t := 23) ?hr ?_; (case hd => rfl); (case hg => rfl); (case hr => first | (go_simp; done) | (go_simp; rfl)); intro gb246 hg w37 hbox hb; have n0_ := Aside0.mk (blk_below (g := gb235) (o := .cells #[.int .i64 a0_0, .int .i64 a0_1, .int .i64 a0_2, .string a0_3] 23 (0, 0)) (by (with_reducible repeat (first | refine blk_drewN ?_ _ | refine blk_drew ?_ | refine blk_alloc ?_ _)); exact BK235.out) hb); have n1_ := Aside0.mk (below_step (by repeat (first | (with_reducible first | exact HB.out | apply below_alloc | apply pw_below_drewN | apply below_drew1 | refine below_set ?_ GE235.out) | exact HB.out)) hb); have n2_ := Aside0.mk (hbox); have n3_ := Aside0.mk ((by rw [hg]; exact (below_size (by repeat (first | (with_reducible first | exact HB.out | apply below_alloc | apply pw_below_drewN | apply below_drew1 | refine below_set ?_ GE235.out) | exact HB.out))) : w.heap.size ≤ gb246)); have n4_ := Aside0.mk ((by rw [hg]; exact (below_size (by repeat (first | (with_reducible first | exact HB.out | apply below_alloc | apply pw_below_drewN | apply below_drew1 | refine below_set ?_ GE235.out) | exact HB.out))) : w.heap.size ≤ gb246)); have n5_ := Aside0.mk ((by rw [hg]; exact Nat.ne_of_lt (blk_lt (g := gb235) (o := .cells #[.int .i64 a0_0, .int .i64 a0_1, .int .i64 a0_2, .string a0_3] 23 (0, 0)) (by (with_reducible repeat (first | refine blk_drewN ?_ _ | refine blk_drew ?_ | refine blk_alloc ?_ _)); exact BK235.out)) : gb235 ≠ gb246)); have n6_ := Aside0.mk ((by rw [hg]; exact Nat.ne_of_gt (blk_lt (g := gb235) (o := .cells #[.int .i64 a0_0, .int .i64 a0_1, .int .i64 a0_2, .string a0_3] 23 (0, 0)) (by (with_reducible repeat (first | refine blk_drewN ?_ _ | refine blk_drew ?_ | refine blk_alloc ?_ _)); exact BK235.out)) : gb246 ≠ gb235)); clear BK235; clear HB; have BK235 := n0_; have HB := n1_; have BK246 := n2_; have GW246 := n3_; have GE246 := n4_; have NB235_246 := n5_; have NB246_235 := n6_; clear n0_ n1_ n2_ n3_ n4_ n5_ n6_; clear hb hbox hg; have hnb38 := NB246_235.out; have hnc38 := NB235_246.out; have hcz39_0 : w37.cell? ⟨gb246, 0, none⟩ = some (.int .i64 0) := (blk_cell BK246.out 0).trans rfl; have hcz39_1 : w37.cell? ⟨gb246, 1, none⟩ = some (.int .i64 0) := (blk_cell BK246.out 1).trans rfl; have hcz39_2 : w37.cell? ⟨gb246, 2, none⟩ = some (.int .i64 0) := (blk_cell BK246.out 2).trans rfl; have hcz39_3 : w37.cell? ⟨gb246, 3, none⟩ = some (.string (⟨#[]⟩ : ByteArray)) := (blk_cell BK246.out 3).trans rfl; have hfz39_0 := blk_frozen BK246.out 0; have hfz39_1 := blk_frozen BK246.out 1; have hfz39_2 := blk_frozen BK246.out 2; have hfz39_3 := blk_frozen BK246.out 3; have hcz40_0 : w37.cell? ⟨gb235, 0, none⟩ = some (.int .i64 a0_0) := (blk_cell BK235.out 0).trans rfl; have hcz40_1 : w37.cell? ⟨gb235, 1, none⟩ = some (.int .i64 a0_1) := (blk_cell BK235.out 1).trans rfl; have hcz40_2 : w37.cell? ⟨gb235, 2, none⟩ = some (.int .i64 a0_2) := (blk_cell BK235.out 2).trans rfl; have hcz40_3 : w37.cell? ⟨gb235, 3, none⟩ = some (.string a0_3) := (blk_cell BK235.out 3).trans rfl; have hfz40_0 := blk_frozen BK235.out 0; have hfz40_1 := blk_frozen BK235.out 1; have hfz40_2 := blk_frozen BK235.out 2; have hfz40_3 := blk_frozen BK235.out 3))
                            go_meet
                            case rel => exact ⟨_, H', ⟨by have := HJ3.out; have := HJ14.out; first | omega | exact Nat.le_refl _⟩, ⟨by (with_reducible repeat (first | refine blk_drewN ?_ _ | refine blk_drew ?_ | refine blk_alloc ?_ _)); refine blk_far ?_ NB235_246.out _; (with_reducible repeat (first | refine blk_drewN ?_ _ | refine blk_drew ?_ | refine blk_alloc ?_ _)); refine blk_far ?_ NB235_246.out _; (with_reducible repeat (first | refine blk_drewN ?_ _ | refine blk_drew ?_ | refine blk_alloc ?_ _)); refine blk_far ?_ NB235_246.out _; (with_reducible repeat (first | refine blk_drewN ?_ _ | refine blk_drew ?_ | refine blk_alloc ?_ _)); refine blk_far ?_ NB235_246.out _; (with_reducible repeat (first | refine blk_drewN ?_ _ | refine blk_drew ?_ | refine blk_alloc ?_ _)); exact BK235.out⟩, ⟨by repeat (first | (with_reducible first | exact HB.out | apply below_alloc | apply pw_below_drewN | apply below_drew1 | refine below_set ?_ GE235.out | refine below_set ?_ GE246.out) | exact HB.out)⟩⟩
                          · rw [if_neg c35] at H
                            have c35b0 : (t244 == (wrap64 ((a1.size : Int) + (t237.size : Int)))) = false := beq_eq_false_iff_ne.mpr c35
                            have c35b1 : (t244 != (wrap64 ((a1.size : Int) + (t237.size : Int)))) = true := bne_iff_ne.mpr c35
                            exact absurd ((Option.some.inj H).trans HT.out) (by simp)
                      · rw [if_neg c33] at H
                        have c33b0 : (t245 == 0) = false := beq_eq_false_iff_ne.mpr c33
                        have c33b1 : (t245 != 0) = true := bne_iff_ne.mpr c33
                        (first | rw [c33b0] | (simp only [i64_w, i32_w]; rw [c33b0]) | skip)
                        exact absurd ((Option.some.inj H).trans HT.out) (by simp)
                    · rw [if_neg c31] at H
                      exact absurd H (by simp)
                  · rw [if_neg c30] at H
                    exact absurd H (by simp)
                · replace c29 := Bool.eq_false_iff.mpr c29
                  subst c29
                  have H1 : (rollcalllaw04_ValueBack.j2 kj14 a2) = some r := by rw [if_neg (show ¬ (false = true) by decide)] at H; exact H
                  clear H
                  have H := H1
                  clear H1
                  have H' := Aside0.mk H
                  clear H
                  go_wp2
                  go_meet
                  case rel => exact ⟨_, H', ⟨by have := HJ3.out; have := HJ14.out; first | omega | exact Nat.le_refl _⟩, ⟨by (with_reducible repeat (first | refine blk_drewN ?_ _ | refine blk_drew ?_ | refine blk_alloc ?_ _)); exact BK235.out⟩, ⟨by repeat (first | (with_reducible first | exact HB.out | apply below_alloc | apply pw_below_drewN | apply below_drew1 | refine below_set ?_ GE235.out) | exact HB.out)⟩⟩
              case rest =>
                clear HC28
                try clear c1
                try clear c2
                try clear p2
                try clear c3
                try clear c5
                try clear c6
                try clear c6b0
                try clear c6b1
                try clear p6
                try clear c8
                try clear c8b0
                try clear c8b1
                try clear c9
                try clear c11
                try clear c15
                try clear c17
                try clear c19
                try clear c19b0
                try clear c19b1
                try clear c19b2
                try clear c22
                try clear c27
                try clear c29
                try clear c30
                try clear c30b0
                try clear c30b1
                try clear c30b2
                try clear c31
                try clear c31b0
                try clear c31b1
                try clear c31b2
                try clear c33
                try clear c33b0
                try clear c33b1
                try clear c34
                try clear c34b0
                try clear c35
                try clear c35b0
                try clear c35b1
                try clear c38
                try clear hcz10_0
                try clear hcz10_1
                try clear hcz10_2
                try clear hcz10_3
                try clear hcz16_0
                try clear hcz16_1
                try clear hcz16_2
                try clear hcz16_3
                try clear hcz20_0
                try clear hcz20_1
                try clear hcz20_2
                try clear hcz20_3
                try clear hcz23_0
                try clear hcz23_1
                try clear hcz23_2
                try clear hcz23_3
                try clear hcz25_0
                try clear hcz25_1
                try clear hcz25_2
                try clear hcz25_3
                try clear hcz39_0
                try clear hcz39_1
                try clear hcz39_2
                try clear hcz39_3
                try clear hcz40_0
                try clear hcz40_1
                try clear hcz40_2
                try clear hcz40_3
                try clear hcz7_0
                try clear hcz7_1
                try clear hcz7_2
                try clear hcz7_3
                try clear hcz9_0
                try clear hcz9_1
                try clear hcz9_2
                try clear hcz9_3
                try clear hfz10_0
                try clear hfz10_1
                try clear hfz10_2
                try clear hfz10_3
                try clear hfz16_0
                try clear hfz16_1
                try clear hfz16_2
                try clear hfz16_3
                try clear hfz20_0
                try clear hfz20_1
                try clear hfz20_2
                try clear hfz20_3
                try clear hfz23_0
                try clear hfz23_1
                try clear hfz23_2
                try clear hfz23_3
                try clear hfz25_0
                try clear hfz25_1
                try clear hfz25_2
                try clear hfz25_3
                try clear hfz39_0
                try clear hfz39_1
                try clear hfz39_2
                try clear hfz39_3
                try clear hfz40_0
                try clear hfz40_1
                try clear hfz40_2
                try clear hfz40_3
                try clear hfz7_0
                try clear hfz7_1
                try clear hfz7_2
                try clear hfz7_3
                try clear hfz9_0
                try clear hfz9_1
                try clear hfz9_2
                try clear hfz9_3
                try clear p2
                obtain ⟨kq, HA, HJ27, BK235, HB⟩ := hcut
                cases kq with
                | zero => exact absurd HA.out (by simp [rollcalllaw04_ValueBack.j2])
                | succ kj27 =>
                  have H := HA.out
                  clear HA
                  simp only [rollcalllaw04_ValueBack.j2] at H
                  replace H := Option.bind_eq_some_iff.mp H
                  obtain ⟨⟨t247, t248, t249, t250, t251, t252⟩, A410, H⟩ := H
                  replace H : (if t252 = 0 then ((value_Put.f kj27 t247 t248 t249 t250).bind fun bt254 => (if bt254.2 = true then (if t251 ≥ 0 then (if t251 ≤ (a2.size : Int) then (if 0 ≤ t251 then (if bt254.1.toList = (a2.extract 0 (t251 : Int).toNat).toList then ((rollcalllaw04_live.f kj27).bind fun t256 => (some t256)) else (some false)) else (none)) else (some false)) else (some false)) else (some false))) else (if (t247 == 0 && (t248 == 0 && (t249 == 0 && (t250.toList == ([] : List UInt8))))) = true then (if t251 = 0 then ((rollcalllaw04_live.f kj27).bind fun t257 => (some t257)) else (some false)) else (some false))) = some r := H
                  have A41 := Aside0.mk A410
                  clear A410
                  by_cases c42 : t252 = 0
                  · rw [if_pos c42] at H
                    have c42b0 : (t252 == 0) = true := beq_iff_eq.mpr c42
                    have c42b1 : (t252 != 0) = false := bne_eq_false_iff_eq.mpr c42
                    clear c42
                    replace H := Option.bind_eq_some_iff.mp H
                    obtain ⟨⟨t254, t255⟩, A430, H⟩ := H
                    replace H : (if t255 = true then (if t251 ≥ 0 then (if t251 ≤ (a2.size : Int) then (if 0 ≤ t251 then (if t254.toList = (a2.extract 0 (t251 : Int).toNat).toList then ((rollcalllaw04_live.f kj27).bind fun t256 => (some t256)) else (some false)) else (none)) else (some false)) else (some false)) else (some false)) = some r := H
                    have A43 := Aside0.mk A430
                    clear A430
                    by_cases c44 : t255 = true
                    · subst c44
                      have H1 : (if t251 ≥ 0 then (if t251 ≤ (a2.size : Int) then (if 0 ≤ t251 then (if t254.toList = (a2.extract 0 (t251 : Int).toNat).toList then ((rollcalllaw04_live.f kj27).bind fun t256 => (some t256)) else (some false)) else (none)) else (some false)) else (some false)) = some r := by rw [if_pos rfl] at H; exact H
                      clear H
                      have H := H1
                      clear H1
                      by_cases c45 : t251 ≥ 0
                      · rw [if_pos c45] at H
                        have c45b0 : decide (0 ≤ t251) = true := decide_eq_true c45
                        clear c45
                        by_cases c46 : t251 ≤ (a2.size : Int)
                        · rw [if_pos c46] at H
                          have c46b0 : decide (t251 ≤ (a2.size : Int)) = true := decide_eq_true c46
                          clear c46
                          by_cases c47 : 0 ≤ t251
                          · rw [if_pos c47] at H
                            have c47b0 := eq_true c47
                            have c47b1 : decide (0 ≤ t251) = true := decide_eq_true c47
                            clear c47
                            have c48b0 := eq_true (of_decide_eq_true (by first | (with_reducible assumption) | assumption) : t251 ≤ (a2.size : Int))
                            by_cases c49 : t254.toList = (a2.extract 0 (t251 : Int).toNat).toList
                            · rw [if_pos c49] at H
                              have c49b0 : (t254.toList == (a2.extract 0 (t251 : Int).toNat).toList) = true := beq_iff_eq.mpr c49
                              have c49b1 : (t254.toList != (a2.extract 0 (t251 : Int).toNat).toList) = false := bne_eq_false_iff_eq.mpr c49
                              clear c49
                              replace H := Option.bind_eq_some_iff.mp H
                              obtain ⟨t256, A500, H⟩ := H
                              replace H : (some t256) = some r := H
                              have A50 := Aside0.mk A500
                              clear A500
                              obtain rfl := Option.some.inj H
                              go_wp2_with (first | ((with_reducible refine gate_callee (f := 17) rfl ?_); refine goesL_ (some 80) rfl rfl Try.func17 (by kernel_rfl) rfl #[.string a2, .int .i64 0] rfl (by (try simp only [List.map_toArray, List.map_cons, List.map_nil]); first | done | rfl | (simp only [List.length_drop, List.length_take]; rfl)) ?_; (with_reducible refine (value_Take.calls kj27 a2 0 t247 t248 t249 t250 t251 t252 _ A41.out).mono ?_); rintro e w51 ⟨rfl, hb⟩; refine ⟨_, rfl, ?_⟩; have n0_ := Aside0.mk (blk_below (g := gb235) (o := .cells #[.int .i64 a0_0, .int .i64 a0_1, .int .i64 a0_2, .string a0_3] 23 (0, 0)) (by (with_reducible repeat (first | refine blk_drewN ?_ _ | refine blk_drew ?_ | refine blk_alloc ?_ _)); exact BK235.out) hb); have n1_ := Aside0.mk (below_step (by repeat (first | (with_reducible first | exact HB.out | apply below_alloc | apply pw_below_drewN | apply below_drew1 | refine below_set ?_ GE235.out) | exact HB.out)) hb); clear BK235; clear HB; have BK235 := n0_; have HB := n1_; clear n0_ n1_; (try clear hb); (try clear hb2); (try clear hk); (try clear hi)) | ((with_reducible refine gate_dst (N := 12) rfl ?_); (try (refine gate_guard (by rfl) ?_; dsimp only)); refine box_event ?hg (N := 12) ?hd (cs := #[.int .i64 0, .int .i64 0, .int .i64 0, .string (⟨#[]⟩ : ByteArray)]) (t := 23) ?hr ?_; (case hd => rfl); (case hg => rfl); (case hr => first | (go_simp; done) | (go_simp; rfl)); intro gb253 hg w52 hbox hb; have n0_ := Aside0.mk (blk_below (g := gb235) (o := .cells #[.int .i64 a0_0, .int .i64 a0_1, .int .i64 a0_2, .string a0_3] 23 (0, 0)) (by (with_reducible repeat (first | refine blk_drewN ?_ _ | refine blk_drew ?_ | refine blk_alloc ?_ _)); exact BK235.out) hb); have n1_ := Aside0.mk (below_step (by repeat (first | (with_reducible first | exact HB.out | apply below_alloc | apply pw_below_drewN | apply below_drew1 | refine below_set ?_ GE235.out) | exact HB.out)) hb); have n2_ := Aside0.mk (hbox); have n3_ := Aside0.mk ((by rw [hg]; exact (below_size (by repeat (first | (with_reducible first | exact HB.out | apply below_alloc | apply pw_below_drewN | apply below_drew1 | refine below_set ?_ GE235.out) | exact HB.out))) : w.heap.size ≤ gb253)); have n4_ := Aside0.mk ((by rw [hg]; exact (below_size (by repeat (first | (with_reducible first | exact HB.out | apply below_alloc | apply pw_below_drewN | apply below_drew1 | refine below_set ?_ GE235.out) | exact HB.out))) : w.heap.size ≤ gb253)); have n5_ := Aside0.mk ((by rw [hg]; exact Nat.ne_of_lt (blk_lt (g := gb235) (o := .cells #[.int .i64 a0_0, .int .i64 a0_1, .int .i64 a0_2, .string a0_3] 23 (0, 0)) (by (with_reducible repeat (first | refine blk_drewN ?_ _ | refine blk_drew ?_ | refine blk_alloc ?_ _)); exact BK235.out)) : gb235 ≠ gb253)); have n6_ := Aside0.mk ((by rw [hg]; exact Nat.ne_of_gt (blk_lt (g := gb235) (o := .cells #[.int .i64 a0_0, .int .i64 a0_1, .int .i64 a0_2, .string a0_3] 23 (0, 0)) (by (with_reducible repeat (first | refine blk_drewN ?_ _ | refine blk_drew ?_ | refine blk_alloc ?_ _)); exact BK235.out)) : gb253 ≠ gb235)); clear BK235; clear HB; have BK235 := n0_; have HB := n1_; have BK253 := n2_; have GW253 := n3_; have GE253 := n4_; have NB235_253 := n5_; have NB253_235 := n6_; clear n0_ n1_ n2_ n3_ n4_ n5_ n6_; clear hb hbox hg; have hnb53 := NB253_235.out; have hnc53 := NB235_253.out; have hcz54_0 : w52.cell? ⟨gb253, 0, none⟩ = some (.int .i64 0) := (blk_cell BK253.out 0).trans rfl; have hcz54_1 : w52.cell? ⟨gb253, 1, none⟩ = some (.int .i64 0) := (blk_cell BK253.out 1).trans rfl; have hcz54_2 : w52.cell? ⟨gb253, 2, none⟩ = some (.int .i64 0) := (blk_cell BK253.out 2).trans rfl; have hcz54_3 : w52.cell? ⟨gb253, 3, none⟩ = some (.string (⟨#[]⟩ : ByteArray)) := (blk_cell BK253.out 3).trans rfl; have hfz54_0 := blk_frozen BK253.out 0; have hfz54_1 := blk_frozen BK253.out 1; have hfz54_2 := blk_frozen BK253.out 2; have hfz54_3 := blk_frozen BK253.out 3) | ((with_reducible refine gate_callee (f := 9) rfl ?_); refine goesL_ (some 98) rfl rfl Try.func9 (by kernel_rfl) rfl #[.agg #[.int .i64 t247, .int .i64 t248, .int .i64 t249, .string t250]] rfl (by (try simp only [List.map_toArray, List.map_cons, List.map_nil]); first | done | rfl | (simp only [List.length_drop, List.length_take]; rfl)) ?_; (with_reducible refine (value_Put.calls kj27 t247 t248 t249 t250 t254 true _ A43.out).mono ?_); rintro e w55 ⟨rfl, hb⟩; refine ⟨_, rfl, ?_⟩; have n0_ := Aside0.mk (blk_below (g := gb235) (o := .cells #[.int .i64 a0_0, .int .i64 a0_1, .int .i64 a0_2, .string a0_3] 23 (0, 0)) (by (with_reducible repeat (first | refine blk_drewN ?_ _ | refine blk_drew ?_ | refine blk_alloc ?_ _)); refine blk_far ?_ NB235_253.out _; (with_reducible repeat (first | refine blk_drewN ?_ _ | refine blk_drew ?_ | refine blk_alloc ?_ _)); refine blk_far ?_ NB235_253.out _; (with_reducible repeat (first | refine blk_drewN ?_ _ | refine blk_drew ?_ | refine blk_alloc ?_ _)); refine blk_far ?_ NB235_253.out _; (with_reducible repeat (first | refine blk_drewN ?_ _ | refine blk_drew ?_ | refine blk_alloc ?_ _)); refine blk_far ?_ NB235_253.out _; (with_reducible repeat (first | refine blk_drewN ?_ _ | refine blk_drew ?_ | refine blk_alloc ?_ _)); exact BK235.out) hb); have n1_ := Aside0.mk (blk_below (g := gb253) (o := .cells #[.int .i64 t247, .int .i64 t248, .int .i64 t249, .string t250] 23 (0, 0)) (by (with_reducible repeat (first | refine blk_drewN ?_ _ | refine blk_drew ?_ | refine blk_alloc ?_ _)); refine blk_put (cs := #[.int .i64 t247, .int .i64 t248, .int .i64 t249, .string (⟨#[]⟩ : ByteArray)]) ?_ 3 _ rfl; (with_reducible repeat (first | refine blk_drewN ?_ _ | refine blk_drew ?_ | refine blk_alloc ?_ _)); refine blk_put (cs := #[.int .i64 t247, .int .i64 t248, .int .i64 0, .string (⟨#[]⟩ : ByteArray)]) ?_ 2 _ rfl; (with_reducible repeat (first | refine blk_drewN ?_ _ | refine blk_drew ?_ | refine blk_alloc ?_ _)); refine blk_put (cs := #[.int .i64 t247, .int .i64 0, .int .i64 0, .string (⟨#[]⟩ : ByteArray)]) ?_ 1 _ rfl; (with_reducible repeat (first | refine blk_drewN ?_ _ | refine blk_drew ?_ | refine blk_alloc ?_ _)); refine blk_put (cs := #[.int .i64 0, .int .i64 0, .int .i64 0, .string (⟨#[]⟩ : ByteArray)]) ?_ 0 _ rfl; (with_reducible repeat (first | refine blk_drewN ?_ _ | refine blk_drew ?_ | refine blk_alloc ?_ _)); exact BK253.out) hb); have n2_ := Aside0.mk (below_step (by repeat (first | (with_reducible first | exact HB.out | apply below_alloc | apply pw_below_drewN | apply below_drew1 | refine below_set ?_ GE235.out | refine below_set ?_ GE253.out) | exact HB.out)) hb); clear BK235; clear BK253; clear HB; have BK235 := n0_; have BK253 := n1_; have HB := n2_; clear n0_ n1_ n2_; (try clear hb); (try clear hb2); (try clear hk); (try clear hi)) | (go_at_call 8; (with_reducible refine (rollcalllaw04_live.calls kj27  t256 _ A50.out).mono ?_); rintro e w56 ⟨rfl, hb⟩; have n0_ := Aside0.mk (blk_below (g := gb235) (o := .cells #[.int .i64 a0_0, .int .i64 a0_1, .int .i64 a0_2, .string a0_3] 23 (0, 0)) (by (with_reducible repeat (first | refine blk_drewN ?_ _ | refine blk_drew ?_ | refine blk_alloc ?_ _)); exact BK235.out) hb); have n1_ := Aside0.mk (blk_below (g := gb253) (o := .cells #[.int .i64 t247, .int .i64 t248, .int .i64 t249, .string t250] 23 (0, 0)) (by (with_reducible repeat (first | refine blk_drewN ?_ _ | refine blk_drew ?_ | refine blk_alloc ?_ _)); exact BK253.out) hb); have n2_ := Aside0.mk (below_step (by repeat (first | (with_reducible first | exact HB.out | apply below_alloc | apply pw_below_drewN | apply below_drew1 | refine below_set ?_ GE235.out | refine below_set ?_ GE253.out) | exact HB.out)) hb); clear BK235; clear BK253; clear HB; have BK235 := n0_; have BK253 := n1_; have HB := n2_; clear n0_ n1_ n2_; (try clear hb); (try clear hb2); (try clear hk); (try clear hi)))
                              go_ret
                              exact ⟨by first | rfl | (simp [errW_none, errW_some] <;> rfl) | (simp [*, errW_none, errW_some] <;> rfl), by repeat (first | (with_reducible first | exact HB.out | apply below_alloc | apply pw_below_drewN | apply below_drew1 | refine below_set ?_ GE235.out | refine below_set ?_ GE253.out) | exact HB.out)⟩
                            · rw [if_neg c49] at H
                              have c49b0 : (t254.toList == (a2.extract 0 (t251 : Int).toNat).toList) = false := beq_eq_false_iff_ne.mpr c49
                              have c49b1 : (t254.toList != (a2.extract 0 (t251 : Int).toNat).toList) = true := bne_iff_ne.mpr c49
                              exact absurd ((Option.some.inj H).trans HT.out) (by simp)
                          · rw [if_neg c47] at H
                            exact absurd H (by simp)
                        · rw [if_neg c46] at H
                          have c46b0 : decide (t251 ≤ (a2.size : Int)) = false := decide_eq_false c46
                          clear c46
                          exact absurd ((Option.some.inj H).trans HT.out) (by simp)
                      · rw [if_neg c45] at H
                        have c45b0 : decide (0 ≤ t251) = false := decide_eq_false c45
                        clear c45
                        exact absurd ((Option.some.inj H).trans HT.out) (by simp)
                    · replace c44 := Bool.eq_false_iff.mpr c44
                      subst c44
                      have H1 : (some false) = some r := by rw [if_neg (show ¬ (false = true) by decide)] at H; exact H
                      clear H
                      have H := H1
                      clear H1
                      exact absurd ((Option.some.inj H).trans HT.out) (by simp)
                  · rw [if_neg c42] at H
                    have c42b0 : (t252 == 0) = false := beq_eq_false_iff_ne.mpr c42
                    have c42b1 : (t252 != 0) = true := bne_iff_ne.mpr c42
                    by_cases c57 : (t247 == 0 && (t248 == 0 && (t249 == 0 && (t250.toList == ([] : List UInt8))))) = true
                    · rw [if_pos c57] at H
                      have c57b0 : (t247 == 0 && (t248 == 0 && (t249 == 0 && (t250.toList == ([] : List UInt8))))) = true := c57
                      (try (have cz1_ := c57b0; simp only [List.beq_nil_eq] at cz1_))
                      (try (have c57b1 : decide (t247 = 0 && (t248 == 0 && (t249 == 0 && (t250.toList == ([] : List UInt8))))) = true := by simpa using c57))
                      (try (have c57b2 : (t247 == 0 && (t248 == 0 && (t249 == 0 && (t250.toList == ([] : List UInt8))))) = true := by simpa using c57))
                      clear c57
                      by_cases c58 : t251 = 0
                      · rw [if_pos c58] at H
                        have c58b0 : (t251 == 0) = true := beq_iff_eq.mpr c58
                        have c58b1 : (t251 != 0) = false := bne_eq_false_iff_eq.mpr c58
                        clear c58
                        replace H := Option.bind_eq_some_iff.mp H
                        obtain ⟨t257, A590, H⟩ := H
                        replace H : (some t257) = some r := H
                        have A59 := Aside0.mk A590
                        clear A590
                        obtain rfl := Option.some.inj H
                        go_wp2_with (first | ((with_reducible refine gate_callee (f := 17) rfl ?_); refine goesL_ (some 80) rfl rfl Try.func17 (by kernel_rfl) rfl #[.string a2, .int .i64 0] rfl (by (try simp only [List.map_toArray, List.map_cons, List.map_nil]); first | done | rfl | (simp only [List.length_drop, List.length_take]; rfl)) ?_; (with_reducible refine (value_Take.calls kj27 a2 0 t247 t248 t249 t250 t251 t252 _ A41.out).mono ?_); rintro e w60 ⟨rfl, hb⟩; refine ⟨_, rfl, ?_⟩; have n0_ := Aside0.mk (blk_below (g := gb235) (o := .cells #[.int .i64 a0_0, .int .i64 a0_1, .int .i64 a0_2, .string a0_3] 23 (0, 0)) (by (with_reducible repeat (first | refine blk_drewN ?_ _ | refine blk_drew ?_ | refine blk_alloc ?_ _)); exact BK235.out) hb); have n1_ := Aside0.mk (below_step (by repeat (first | (with_reducible first | exact HB.out | apply below_alloc | apply pw_below_drewN | apply below_drew1 | refine below_set ?_ GE235.out) | exact HB.out)) hb); clear BK235; clear HB; have BK235 := n0_; have HB := n1_; clear n0_ n1_; (try clear hb); (try clear hb2); (try clear hk); (try clear hi)) | ((with_reducible refine gate_dst (N := 12) rfl ?_); (try (refine gate_guard (by rfl) ?_; dsimp only)); refine box_event ?hg (N := 12) ?hd (cs := #[.int .i64 0, .int .i64 0, .int .i64 0, .string (⟨#[]⟩ : ByteArray)]) (t := 23) ?hr ?_; (case hd => rfl); (case hg => rfl); (case hr => first | (go_simp; done) | (go_simp; rfl)); intro gb253 hg w61 hbox hb; have n0_ := Aside0.mk (blk_below (g := gb235) (o := .cells #[.int .i64 a0_0, .int .i64 a0_1, .int .i64 a0_2, .string a0_3] 23 (0, 0)) (by (with_reducible repeat (first | refine blk_drewN ?_ _ | refine blk_drew ?_ | refine blk_alloc ?_ _)); exact BK235.out) hb); have n1_ := Aside0.mk (below_step (by repeat (first | (with_reducible first | exact HB.out | apply below_alloc | apply pw_below_drewN | apply below_drew1 | refine below_set ?_ GE235.out) | exact HB.out)) hb); have n2_ := Aside0.mk (hbox); have n3_ := Aside0.mk ((by rw [hg]; exact (below_size (by repeat (first | (with_reducible first | exact HB.out | apply below_alloc | apply pw_below_drewN | apply below_drew1 | refine below_set ?_ GE235.out) | exact HB.out))) : w.heap.size ≤ gb253)); have n4_ := Aside0.mk ((by rw [hg]; exact (below_size (by repeat (first | (with_reducible first | exact HB.out | apply below_alloc | apply pw_below_drewN | apply below_drew1 | refine below_set ?_ GE235.out) | exact HB.out))) : w.heap.size ≤ gb253)); have n5_ := Aside0.mk ((by rw [hg]; exact Nat.ne_of_lt (blk_lt (g := gb235) (o := .cells #[.int .i64 a0_0, .int .i64 a0_1, .int .i64 a0_2, .string a0_3] 23 (0, 0)) (by (with_reducible repeat (first | refine blk_drewN ?_ _ | refine blk_drew ?_ | refine blk_alloc ?_ _)); exact BK235.out)) : gb235 ≠ gb253)); have n6_ := Aside0.mk ((by rw [hg]; exact Nat.ne_of_gt (blk_lt (g := gb235) (o := .cells #[.int .i64 a0_0, .int .i64 a0_1, .int .i64 a0_2, .string a0_3] 23 (0, 0)) (by (with_reducible repeat (first | refine blk_drewN ?_ _ | refine blk_drew ?_ | refine blk_alloc ?_ _)); exact BK235.out)) : gb253 ≠ gb235)); clear BK235; clear HB; have BK235 := n0_; have HB := n1_; have BK253 := n2_; have GW253 := n3_; have GE253 := n4_; have NB235_253 := n5_; have NB253_235 := n6_; clear n0_ n1_ n2_ n3_ n4_ n5_ n6_; clear hb hbox hg; have hnb62 := NB253_235.out; have hnc62 := NB235_253.out; have hcz63_0 : w61.cell? ⟨gb253, 0, none⟩ = some (.int .i64 0) := (blk_cell BK253.out 0).trans rfl; have hcz63_1 : w61.cell? ⟨gb253, 1, none⟩ = some (.int .i64 0) := (blk_cell BK253.out 1).trans rfl; have hcz63_2 : w61.cell? ⟨gb253, 2, none⟩ = some (.int .i64 0) := (blk_cell BK253.out 2).trans rfl; have hcz63_3 : w61.cell? ⟨gb253, 3, none⟩ = some (.string (⟨#[]⟩ : ByteArray)) := (blk_cell BK253.out 3).trans rfl; have hfz63_0 := blk_frozen BK253.out 0; have hfz63_1 := blk_frozen BK253.out 1; have hfz63_2 := blk_frozen BK253.out 2; have hfz63_3 := blk_frozen BK253.out 3) | (go_at_call 8; (with_reducible refine (rollcalllaw04_live.calls kj27  t257 _ A59.out).mono ?_); rintro e w64 ⟨rfl, hb⟩; have n0_ := Aside0.mk (blk_below (g := gb235) (o := .cells #[.int .i64 a0_0, .int .i64 a0_1, .int .i64 a0_2, .string a0_3] 23 (0, 0)) (by (with_reducible repeat (first | refine blk_drewN ?_ _ | refine blk_drew ?_ | refine blk_alloc ?_ _)); refine blk_far ?_ NB235_253.out _; (with_reducible repeat (first | refine blk_drewN ?_ _ | refine blk_drew ?_ | refine blk_alloc ?_ _)); refine blk_far ?_ NB235_253.out _; (with_reducible repeat (first | refine blk_drewN ?_ _ | refine blk_drew ?_ | refine blk_alloc ?_ _)); refine blk_far ?_ NB235_253.out _; (with_reducible repeat (first | refine blk_drewN ?_ _ | refine blk_drew ?_ | refine blk_alloc ?_ _)); refine blk_far ?_ NB235_253.out _; (with_reducible repeat (first | refine blk_drewN ?_ _ | refine blk_drew ?_ | refine blk_alloc ?_ _)); exact BK235.out) hb); have n1_ := Aside0.mk (blk_below (g := gb253) (o := .cells #[.int .i64 t247, .int .i64 t248, .int .i64 t249, .string t250] 23 (0, 0)) (by (with_reducible repeat (first | refine blk_drewN ?_ _ | refine blk_drew ?_ | refine blk_alloc ?_ _)); refine blk_put (cs := #[.int .i64 t247, .int .i64 t248, .int .i64 t249, .string (⟨#[]⟩ : ByteArray)]) ?_ 3 _ rfl; (with_reducible repeat (first | refine blk_drewN ?_ _ | refine blk_drew ?_ | refine blk_alloc ?_ _)); refine blk_put (cs := #[.int .i64 t247, .int .i64 t248, .int .i64 0, .string (⟨#[]⟩ : ByteArray)]) ?_ 2 _ rfl; (with_reducible repeat (first | refine blk_drewN ?_ _ | refine blk_drew ?_ | refine blk_alloc ?_ _)); refine blk_put (cs := #[.int .i64 t247, .int .i64 0, .int .i64 0, .string (⟨#[]⟩ : ByteArray)]) ?_ 1 _ rfl; (with_reducible repeat (first | refine blk_drewN ?_ _ | refine blk_drew ?_ | refine blk_alloc ?_ _)); refine blk_put (cs := #[.int .i64 0, .int .i64 0, .int .i64 0, .string (⟨#[]⟩ : ByteArray)]) ?_ 0 _ rfl; (with_reducible repeat (first | refine blk_drewN ?_ _ | refine blk_drew ?_ | refine blk_alloc ?_ _)); exact BK253.out) hb); have n2_ := Aside0.mk (below_step (by repeat (first | (with_reducible first | exact HB.out | apply below_alloc | apply pw_below_drewN | apply below_drew1 | refine below_set ?_ GE235.out | refine below_set ?_ GE253.out) | exact HB.out)) hb); clear BK235; clear BK253; clear HB; have BK235 := n0_; have BK253 := n1_; have HB := n2_; clear n0_ n1_ n2_; (try clear hb); (try clear hb2); (try clear hk); (try clear hi)))
                        go_ret
                        exact ⟨by first | rfl | (simp [errW_none, errW_some] <;> rfl) | (simp [*, errW_none, errW_some] <;> rfl), by repeat (first | (with_reducible first | exact HB.out | apply below_alloc | apply pw_below_drewN | apply below_drew1 | refine below_set ?_ GE235.out | refine below_set ?_ GE253.out) | exact HB.out)⟩
                      · rw [if_neg c58] at H
                        have c58b0 : (t251 == 0) = false := beq_eq_false_iff_ne.mpr c58
                        have c58b1 : (t251 != 0) = true := bne_iff_ne.mpr c58
                        exact absurd ((Option.some.inj H).trans HT.out) (by simp)
                    · rw [if_neg c57] at H
                      have c57b0 : (t247 == 0 && (t248 == 0 && (t249 == 0 && (t250.toList == ([] : List UInt8))))) = false := by simpa using c57
                      (try (have cz2_ := c57b0; simp only [List.beq_nil_eq] at cz2_))
                      (try (have c57b1 : decide (t247 = 0 && (t248 == 0 && (t249 == 0 && (t250.toList == ([] : List UInt8))))) = false := by simpa using c57))
                      (try (have c57b2 : (t247 == 0 && (t248 == 0 && (t249 == 0 && (t250.toList == ([] : List UInt8))))) = false := by simpa using c57))
                      (try (have c57b3 : ¬ (t247 = 0 && (t248 == 0 && (t249 == 0 && (t250.toList == ([] : List UInt8))))) := by simpa using c57))
                      clear c57
                      exact absurd ((Option.some.inj H).trans HT.out) (by simp)

/-- THE PURE STATEMENT of rollcalllaw04_ValueBack. -/
def rollcalllaw04_ValueBack.Pure : Prop := ∀ (a0_0 : Int) (a0_1 : Int) (a0_2 : Int) (a0_3 : ByteArray) (a1 : ByteArray) (a2 : ByteArray), (Lit.int .i64 a0_0).wf = true → (Lit.int .i64 a0_1).wf = true → (Lit.int .i64 a0_2).wf = true → a0_3.size ≤ maxLen → a1.size ≤ 140737488351232 → a2.size ≤ 140737488351232 → ∃ k, rollcalllaw04_ValueBack.f k a0_0 a0_1 a0_2 a0_3 a1 a2 = some true
theorem rollcalllaw04_ValueBack.walkx (P : rollcalllaw04_ValueBack.Pure) (a0_0 : Int) (a0_1 : Int) (a0_2 : Int) (a0_3 : ByteArray) (a1 : ByteArray) (a2 : ByteArray) (w : World) (q0 : (Lit.int .i64 a0_0).wf = true) (q1 : (Lit.int .i64 a0_1).wf = true) (q2 : (Lit.int .i64 a0_2).wf = true) (q3 : a0_3.size ≤ maxLen) (q4 : a1.size ≤ 140737488351232) (q5 : a2.size ≤ 140737488351232) :
    Calls Try.prog 5 #[.agg #[.int .i64 a0_0, .int .i64 a0_1, .int .i64 a0_2, .string a0_3], .string a1, .string a2] w fun e w' => e = .returned (.bool true) ∧ Below w.heap.size w w' := by
  obtain ⟨k, h⟩ := P a0_0 a0_1 a0_2 a0_3 a1 a2 q0 q1 q2 q3 q4 q5
  refine (rollcalllaw04_ValueBack.calls k a0_0 a0_1 a0_2 a0_3 a1 a2 true rfl w h).mono ?_
  rintro e w' ⟨rfl, hd⟩
  exact ⟨rfl, hd⟩

end Go.Proofs.Ytgchnnkbknaklaa.PA
