-- Several texts in one, without what the law does not use (wip/tools/bundle.py).
import Derived.Test.YtmigglldahkngaaBLinkTold1

section
-- Written by a program of this session (wip/tools/xprint.py), which drives the kit's print.
namespace Go.Proofs.Ytmigglldahkngaa.PA
open Go.RowKit Go.Proofs.YtmigglldahkngaaW.PrintWords Go.Proofs.YtmigglldahkngaaW.PrintLast Go.Proofs.YtmigglldahkngaaW.PrintMore
attribute [local go_sem] max2_int min2_int max_two min_two   -- for this text's walks alone
set_option linter.unusedVariables false
set_option linter.unusedSimpArgs false

attribute [local go_sem high] eqA32
/-! ### rollcallref04_May: function 57 -/
mutual
def rollcallref04_May.j0 : Nat → Bool → Int → Int → Int → ByteArray → Option (Bool)
 | 0, _, _, _, _, _ => none
 | k + 1, x37, x258000, x258001, x258002, x258003 => if x37 = true then (some false) else (rollcallref04_May.l0 k 0 x258000 x258001 x258002 x258003)
def rollcallref04_May.l0 : Nat → Int → Int → Int → Int → ByteArray → Option (Bool)
 | 0, _, _, _, _, _ => none
 | k + 1, x3, x258000, x258001, x258002, x258003 => if x3 < (x258003.size : Int) then (if 0 ≤ x3 then (if (bt x258003 x3) < 32 then (some false) else (if (bt x258003 x3) > 126 then (some false) else (rollcallref04_May.l0 k (wrap64 (x3 + 1)) x258000 x258001 x258002 x258003))) else (none)) else (some true)
end
def rollcallref04_May.f (k : Nat) (a0_0 : Int) (a0_1 : Int) (a0_2 : Int) (a0_3 : ByteArray) : Option (Bool) := if a0_0 < 1 then (rollcallref04_May.j0 k true a0_0 a0_1 a0_2 a0_3) else (if a0_0 > 4 then (rollcallref04_May.j0 k true a0_0 a0_1 a0_2 a0_3) else (if a0_1 < (-128) then (rollcallref04_May.j0 k true a0_0 a0_1 a0_2 a0_3) else (if a0_1 > 127 then (rollcallref04_May.j0 k true a0_0 a0_1 a0_2 a0_3) else (if a0_2 < 0 then (rollcallref04_May.j0 k true a0_0 a0_1 a0_2 a0_3) else (if a0_2 > 1099511627776 then (rollcallref04_May.j0 k true a0_0 a0_1 a0_2 a0_3) else (rollcallref04_May.j0 k (decide ((a0_3.size : Int) > 32)) a0_0 a0_1 a0_2 a0_3))))))
set_option maxHeartbeats 8000000 in
set_option maxRecDepth 100000 in
theorem rollcallref04_May.calls (k : Nat) (a0_0 : Int) (a0_1 : Int) (a0_2 : Int) (a0_3 : ByteArray) (r : Bool) (w : World) (h : rollcallref04_May.f k a0_0 a0_1 a0_2 a0_3 = some r) :
  Calls Try.prog 57 #[.agg #[.int .i64 a0_0, .int .i64 a0_1, .int .i64 a0_2, .string a0_3]] w fun e w' => e = .returned (.bool r) ∧ Below w.heap.size w w' := by
 have hu32 := Try.underlying32
 have HB := Aside0.mk (Below.refl w.heap.size w)
 have H : (if a0_0 < 1 then (rollcallref04_May.j0 k true a0_0 a0_1 a0_2 a0_3) else (if a0_0 > 4 then (rollcallref04_May.j0 k true a0_0 a0_1 a0_2 a0_3) else (if a0_1 < (-128) then (rollcallref04_May.j0 k true a0_0 a0_1 a0_2 a0_3) else (if a0_1 > 127 then (rollcallref04_May.j0 k true a0_0 a0_1 a0_2 a0_3) else (if a0_2 < 0 then (rollcallref04_May.j0 k true a0_0 a0_1 a0_2 a0_3) else (if a0_2 > 1099511627776 then (rollcallref04_May.j0 k true a0_0 a0_1 a0_2 a0_3) else (rollcallref04_May.j0 k (decide ((a0_3.size : Int) > 32)) a0_0 a0_1 a0_2 a0_3))))))) = some r := h
 clear h
 have HC2 := Aside0.mk H
 clear H
 go_enter Try.func57, Try.ntmps57
 go_upto_region 1 with (first | ((with_reducible refine gate_dst (N := 1) rfl ?_); (try (refine gate_guard (by rfl) ?_; dsimp only)); refine box_event ?hg (N := 1) ?hd (cs := #[.int .i64 a0_0, .int .i64 a0_1, .int .i64 a0_2, .string a0_3]) (t := 32) ?hr ?_; (case hd => rfl); (case hg => rfl); (case hr => first | (go_simp; done) | (go_simp; rfl)); intro gb257 hg w3 hbox hb; have BK257 := Aside0.mk (hbox); have GW257 := Aside0.mk ((by rw [hg]; exact (below_size (hS HB.out)) : w.heap.size ≤ gb257)); have GE257 := Aside0.mk ((by rw [hg]; exact (below_size (hS HB.out)) : w.heap.size ≤ gb257)); replace HB := Aside0.mk (below_step (hS HB.out) hb); clear hb hbox hg))
 (try simp only [Act.put, List.setIfInBounds_toArray, List.set_cons_zero, List.set_cons_succ])
 go_cut [37] (fun v37 wc => ∃ (kq : Nat) (x37_1 : Bool), v37 = .bool x37_1 ∧ Aside0 (rollcallref04_May.j0 kq x37_1 a0_0 a0_1 a0_2 a0_3 = some r) ∧ Aside0 (kq ≤ k) ∧ Aside0 (wc.heap[gb257]? = some (.cells #[.int .i64 a0_0, .int .i64 a0_1, .int .i64 a0_2, .string a0_3] 32 (0, 0))) ∧ Aside0 (Below w.heap.size w wc))
 case first =>
  have H := HC2.out
  clear HC2
  by_cases c4 : a0_0 < 1
  ·rw [if_pos c4] at H
   have c4b0 : decide (a0_0 < 1) = true := decide_eq_true c4
   clear c4
   (first | rw [c4b0] | (simp only [i64_w, i32_w]; rw [c4b0]) | skip)
   have H' := Aside0.mk H
   clear H
   have hcz5_0 : w3.cell? ⟨gb257, 0, none⟩ = some (.int .i64 a0_0) := (blk_cell BK257.out 0).trans rfl
   have hcz5_1 : w3.cell? ⟨gb257, 1, none⟩ = some (.int .i64 a0_1) := (blk_cell BK257.out 1).trans rfl
   have hcz5_2 : w3.cell? ⟨gb257, 2, none⟩ = some (.int .i64 a0_2) := (blk_cell BK257.out 2).trans rfl
   have hcz5_3 : w3.cell? ⟨gb257, 3, none⟩ = some (.string a0_3) := (blk_cell BK257.out 3).trans rfl
   have hfz5_0 := blk_frozen BK257.out 0
   have hfz5_1 := blk_frozen BK257.out 1
   have hfz5_2 := blk_frozen BK257.out 2
   have hfz5_3 := blk_frozen BK257.out 3
   go_wp2
   go_meet
   case rel => exact ⟨_, (true), (by first | rfl | (simp; done) | (simp [*]; done)), H', ⟨by first | omega | exact Nat.le_refl _⟩, ⟨bS BK257.out⟩, ⟨by repeat (first | (with_reducible first | exact HB.out | apply below_alloc | apply pw_below_drewN | apply below_drew1 | refine below_set ?_ GE257.out) | exact HB.out)⟩⟩
  ·rw [if_neg c4] at H
   have c4b0 : decide (a0_0 < 1) = false := decide_eq_false c4
   clear c4
   (first | rw [c4b0] | (simp only [i64_w, i32_w]; rw [c4b0]) | skip)
   by_cases c6 : a0_0 > 4
   ·rw [if_pos c6] at H
    have c6b0 : decide (4 < a0_0) = true := decide_eq_true c6
    clear c6
    have H' := Aside0.mk H
    clear H
    have hcz7_0 : w3.cell? ⟨gb257, 0, none⟩ = some (.int .i64 a0_0) := (blk_cell BK257.out 0).trans rfl
    have hcz7_1 : w3.cell? ⟨gb257, 1, none⟩ = some (.int .i64 a0_1) := (blk_cell BK257.out 1).trans rfl
    have hcz7_2 : w3.cell? ⟨gb257, 2, none⟩ = some (.int .i64 a0_2) := (blk_cell BK257.out 2).trans rfl
    have hcz7_3 : w3.cell? ⟨gb257, 3, none⟩ = some (.string a0_3) := (blk_cell BK257.out 3).trans rfl
    have hfz7_0 := blk_frozen BK257.out 0
    have hfz7_1 := blk_frozen BK257.out 1
    have hfz7_2 := blk_frozen BK257.out 2
    have hfz7_3 := blk_frozen BK257.out 3
    go_wp2
    go_meet
    case rel => exact ⟨_, (true), (by first | rfl | (simp; done) | (simp [*]; done)), H', ⟨by first | omega | exact Nat.le_refl _⟩, ⟨bS BK257.out⟩, ⟨by repeat (first | (with_reducible first | exact HB.out | apply below_alloc | apply pw_below_drewN | apply below_drew1 | refine below_set ?_ GE257.out) | exact HB.out)⟩⟩
   ·rw [if_neg c6] at H
    have c6b0 : decide (4 < a0_0) = false := decide_eq_false c6
    clear c6
    by_cases c8 : a0_1 < (-128)
    ·rw [if_pos c8] at H
     have c8b0 : decide (a0_1 < (-128)) = true := decide_eq_true c8
     clear c8
     have H' := Aside0.mk H
     clear H
     have hcz9_0 : w3.cell? ⟨gb257, 0, none⟩ = some (.int .i64 a0_0) := (blk_cell BK257.out 0).trans rfl
     have hcz9_1 : w3.cell? ⟨gb257, 1, none⟩ = some (.int .i64 a0_1) := (blk_cell BK257.out 1).trans rfl
     have hcz9_2 : w3.cell? ⟨gb257, 2, none⟩ = some (.int .i64 a0_2) := (blk_cell BK257.out 2).trans rfl
     have hcz9_3 : w3.cell? ⟨gb257, 3, none⟩ = some (.string a0_3) := (blk_cell BK257.out 3).trans rfl
     have hfz9_0 := blk_frozen BK257.out 0
     have hfz9_1 := blk_frozen BK257.out 1
     have hfz9_2 := blk_frozen BK257.out 2
     have hfz9_3 := blk_frozen BK257.out 3
     go_wp2
     go_meet
     case rel => exact ⟨_, (true), (by first | rfl | (simp; done) | (simp [*]; done)), H', ⟨by first | omega | exact Nat.le_refl _⟩, ⟨bS BK257.out⟩, ⟨by repeat (first | (with_reducible first | exact HB.out | apply below_alloc | apply pw_below_drewN | apply below_drew1 | refine below_set ?_ GE257.out) | exact HB.out)⟩⟩
    ·rw [if_neg c8] at H
     have c8b0 : decide (a0_1 < (-128)) = false := decide_eq_false c8
     clear c8
     by_cases c10 : a0_1 > 127
     ·rw [if_pos c10] at H
      have c10b0 : decide (127 < a0_1) = true := decide_eq_true c10
      clear c10
      have H' := Aside0.mk H
      clear H
      have hcz11_0 : w3.cell? ⟨gb257, 0, none⟩ = some (.int .i64 a0_0) := (blk_cell BK257.out 0).trans rfl
      have hcz11_1 : w3.cell? ⟨gb257, 1, none⟩ = some (.int .i64 a0_1) := (blk_cell BK257.out 1).trans rfl
      have hcz11_2 : w3.cell? ⟨gb257, 2, none⟩ = some (.int .i64 a0_2) := (blk_cell BK257.out 2).trans rfl
      have hcz11_3 : w3.cell? ⟨gb257, 3, none⟩ = some (.string a0_3) := (blk_cell BK257.out 3).trans rfl
      have hfz11_0 := blk_frozen BK257.out 0
      have hfz11_1 := blk_frozen BK257.out 1
      have hfz11_2 := blk_frozen BK257.out 2
      have hfz11_3 := blk_frozen BK257.out 3
      go_wp2
      go_meet
      case rel => exact ⟨_, (true), (by first | rfl | (simp; done) | (simp [*]; done)), H', ⟨by first | omega | exact Nat.le_refl _⟩, ⟨bS BK257.out⟩, ⟨by repeat (first | (with_reducible first | exact HB.out | apply below_alloc | apply pw_below_drewN | apply below_drew1 | refine below_set ?_ GE257.out) | exact HB.out)⟩⟩
     ·rw [if_neg c10] at H
      have c10b0 : decide (127 < a0_1) = false := decide_eq_false c10
      clear c10
      by_cases c12 : a0_2 < 0
      ·rw [if_pos c12] at H
       have c12b0 : decide (a0_2 < 0) = true := decide_eq_true c12
       clear c12
       have H' := Aside0.mk H
       clear H
       have hcz13_0 : w3.cell? ⟨gb257, 0, none⟩ = some (.int .i64 a0_0) := (blk_cell BK257.out 0).trans rfl
       have hcz13_1 : w3.cell? ⟨gb257, 1, none⟩ = some (.int .i64 a0_1) := (blk_cell BK257.out 1).trans rfl
       have hcz13_2 : w3.cell? ⟨gb257, 2, none⟩ = some (.int .i64 a0_2) := (blk_cell BK257.out 2).trans rfl
       have hcz13_3 : w3.cell? ⟨gb257, 3, none⟩ = some (.string a0_3) := (blk_cell BK257.out 3).trans rfl
       have hfz13_0 := blk_frozen BK257.out 0
       have hfz13_1 := blk_frozen BK257.out 1
       have hfz13_2 := blk_frozen BK257.out 2
       have hfz13_3 := blk_frozen BK257.out 3
       go_wp2
       go_meet
       case rel => exact ⟨_, (true), (by first | rfl | (simp; done) | (simp [*]; done)), H', ⟨by first | omega | exact Nat.le_refl _⟩, ⟨bS BK257.out⟩, ⟨by repeat (first | (with_reducible first | exact HB.out | apply below_alloc | apply pw_below_drewN | apply below_drew1 | refine below_set ?_ GE257.out) | exact HB.out)⟩⟩
      ·rw [if_neg c12] at H
       have c12b0 : decide (a0_2 < 0) = false := decide_eq_false c12
       clear c12
       by_cases c14 : a0_2 > 1099511627776
       ·rw [if_pos c14] at H
        have c14b0 : decide (1099511627776 < a0_2) = true := decide_eq_true c14
        clear c14
        have H' := Aside0.mk H
        clear H
        have hcz15_0 : w3.cell? ⟨gb257, 0, none⟩ = some (.int .i64 a0_0) := (blk_cell BK257.out 0).trans rfl
        have hcz15_1 : w3.cell? ⟨gb257, 1, none⟩ = some (.int .i64 a0_1) := (blk_cell BK257.out 1).trans rfl
        have hcz15_2 : w3.cell? ⟨gb257, 2, none⟩ = some (.int .i64 a0_2) := (blk_cell BK257.out 2).trans rfl
        have hcz15_3 : w3.cell? ⟨gb257, 3, none⟩ = some (.string a0_3) := (blk_cell BK257.out 3).trans rfl
        have hfz15_0 := blk_frozen BK257.out 0
        have hfz15_1 := blk_frozen BK257.out 1
        have hfz15_2 := blk_frozen BK257.out 2
        have hfz15_3 := blk_frozen BK257.out 3
        go_wp2
        go_meet
        case rel => exact ⟨_, (true), (by first | rfl | (simp; done) | (simp [*]; done)), H', ⟨by first | omega | exact Nat.le_refl _⟩, ⟨bS BK257.out⟩, ⟨by repeat (first | (with_reducible first | exact HB.out | apply below_alloc | apply pw_below_drewN | apply below_drew1 | refine below_set ?_ GE257.out) | exact HB.out)⟩⟩
       ·rw [if_neg c14] at H
        have c14b0 : decide (1099511627776 < a0_2) = false := decide_eq_false c14
        clear c14
        have H' := Aside0.mk H
        clear H
        have hcz16_0 : w3.cell? ⟨gb257, 0, none⟩ = some (.int .i64 a0_0) := (blk_cell BK257.out 0).trans rfl
        have hcz16_1 : w3.cell? ⟨gb257, 1, none⟩ = some (.int .i64 a0_1) := (blk_cell BK257.out 1).trans rfl
        have hcz16_2 : w3.cell? ⟨gb257, 2, none⟩ = some (.int .i64 a0_2) := (blk_cell BK257.out 2).trans rfl
        have hcz16_3 : w3.cell? ⟨gb257, 3, none⟩ = some (.string a0_3) := (blk_cell BK257.out 3).trans rfl
        have hfz16_0 := blk_frozen BK257.out 0
        have hfz16_1 := blk_frozen BK257.out 1
        have hfz16_2 := blk_frozen BK257.out 2
        have hfz16_3 := blk_frozen BK257.out 3
        go_wp2
        go_meet
        case rel => exact ⟨_, (decide ((a0_3.size : Int) > 32)), (by first | rfl | (simp; done) | (simp [*]; done)), H', ⟨by first | omega | exact Nat.le_refl _⟩, ⟨bS BK257.out⟩, ⟨by repeat (first | (with_reducible first | exact HB.out | apply below_alloc | apply pw_below_drewN | apply below_drew1 | refine below_set ?_ GE257.out) | exact HB.out)⟩⟩
 case rest =>
  clear HC2
  try clear c1
  try clear p2
  try clear c4
  try clear c4b0
  try clear c5
  try clear c6
  try clear c6b0
  try clear c8
  try clear c8b0
  try clear c10
  try clear c10b0
  try clear c12
  try clear c12b0
  try clear c14
  try clear c14b0
  try clear hcz11_0
  try clear hcz11_1
  try clear hcz11_2
  try clear hcz11_3
  try clear hcz13_0
  try clear hcz13_1
  try clear hcz13_2
  try clear hcz13_3
  try clear hcz15_0
  try clear hcz15_1
  try clear hcz15_2
  try clear hcz15_3
  try clear hcz16_0
  try clear hcz16_1
  try clear hcz16_2
  try clear hcz16_3
  try clear hcz5_0
  try clear hcz5_1
  try clear hcz5_2
  try clear hcz5_3
  try clear hcz7_0
  try clear hcz7_1
  try clear hcz7_2
  try clear hcz7_3
  try clear hcz9_0
  try clear hcz9_1
  try clear hcz9_2
  try clear hcz9_3
  try clear hfz11_0
  try clear hfz11_1
  try clear hfz11_2
  try clear hfz11_3
  try clear hfz13_0
  try clear hfz13_1
  try clear hfz13_2
  try clear hfz13_3
  try clear hfz15_0
  try clear hfz15_1
  try clear hfz15_2
  try clear hfz15_3
  try clear hfz16_0
  try clear hfz16_1
  try clear hfz16_2
  try clear hfz16_3
  try clear hfz5_0
  try clear hfz5_1
  try clear hfz5_2
  try clear hfz5_3
  try clear hfz7_0
  try clear hfz7_1
  try clear hfz7_2
  try clear hfz7_3
  try clear hfz9_0
  try clear hfz9_1
  try clear hfz9_2
  try clear hfz9_3
  obtain ⟨kq, x37_1, rfl, HA, HJ1, BK257, HB⟩ := hcut
  cases kq with
  | zero => exact absurd HA.out (by simp [rollcallref04_May.j0])
  | succ kj1 =>
   have H := HA.out
   clear HA
   simp only [rollcallref04_May.j0] at H
   by_cases c17 : x37_1 = true
   ·subst c17
    have H1 : (some false) = some r := by rw [if_pos rfl] at H; exact H
    clear H
    have H := H1
    clear H1
    obtain rfl := Option.some.inj H
    go_wp2
    go_ret
    exact ⟨by first | rfl | (simp [errW_none, errW_some] <;> rfl) | (simp [*, errW_none, errW_some] <;> rfl), by repeat (first | (with_reducible first | exact HB.out | apply below_alloc | apply pw_below_drewN | apply below_drew1 | refine below_set ?_ GE257.out) | exact HB.out)⟩
   ·replace c17 := Bool.eq_false_iff.mpr c17
    subst c17
    have H1 : (rollcallref04_May.l0 kj1 0 a0_0 a0_1 a0_2 a0_3) = some r := by rw [if_neg (show ¬ (false = true) by decide)] at H; exact H
    clear H
    have H := H1
    clear H1
    have H' := Aside0.mk H
    clear H
    go_wp2
    go_loopg [3] kj1 (fun kq v3 w' => ∃ (x3_2 : Int), v3 = .int .i64 x3_2 ∧ Aside0 (rollcallref04_May.l0 kq x3_2 a0_0 a0_1 a0_2 a0_3 = some r) ∧ Aside0 (kq ≤ kj1) ∧ Aside0 (w'.heap[gb257]? = some (.cells #[.int .i64 a0_0, .int .i64 a0_1, .int .i64 a0_2, .string a0_3] 32 (0, 0))) ∧ Aside0 (Below w.heap.size w w'))
    case atStart => exact ⟨(0), (by first | rfl | (simp; done) | (simp [*]; done)), H', ⟨Nat.le_refl _⟩, ⟨bS BK257.out⟩, ⟨by repeat (first | (with_reducible first | exact HB.out | apply below_alloc | apply pw_below_drewN | apply below_drew1 | refine below_set ?_ GE257.out) | exact HB.out)⟩⟩
    case round =>
     clear H'
     try clear c1
     try clear p2
     try clear c4
     try clear c4b0
     try clear c5
     try clear c6
     try clear c6b0
     try clear c8
     try clear c8b0
     try clear c10
     try clear c10b0
     try clear c12
     try clear c12b0
     try clear c14
     try clear c14b0
     try clear c17
     try clear hcz11_0
     try clear hcz11_1
     try clear hcz11_2
     try clear hcz11_3
     try clear hcz13_0
     try clear hcz13_1
     try clear hcz13_2
     try clear hcz13_3
     try clear hcz15_0
     try clear hcz15_1
     try clear hcz15_2
     try clear hcz15_3
     try clear hcz16_0
     try clear hcz16_1
     try clear hcz16_2
     try clear hcz16_3
     try clear hcz5_0
     try clear hcz5_1
     try clear hcz5_2
     try clear hcz5_3
     try clear hcz7_0
     try clear hcz7_1
     try clear hcz7_2
     try clear hcz7_3
     try clear hcz9_0
     try clear hcz9_1
     try clear hcz9_2
     try clear hcz9_3
     try clear hfz11_0
     try clear hfz11_1
     try clear hfz11_2
     try clear hfz11_3
     try clear hfz13_0
     try clear hfz13_1
     try clear hfz13_2
     try clear hfz13_3
     try clear hfz15_0
     try clear hfz15_1
     try clear hfz15_2
     try clear hfz15_3
     try clear hfz16_0
     try clear hfz16_1
     try clear hfz16_2
     try clear hfz16_3
     try clear hfz5_0
     try clear hfz5_1
     try clear hfz5_2
     try clear hfz5_3
     try clear hfz7_0
     try clear hfz7_1
     try clear hfz7_2
     try clear hfz7_3
     try clear hfz9_0
     try clear hfz9_1
     try clear hfz9_2
     try clear hfz9_3
     try clear p2
     obtain ⟨x3_2, rfl, HA, HK2, BK257, HB⟩ := hrel
     cases gk with
     | zero => exact absurd HA.out (by simp [rollcallref04_May.l0])
     | succ k2 =>
      have H := HA.out
      clear HA
      simp only [rollcallref04_May.l0] at H
      by_cases c18 : x3_2 < (a0_3.size : Int)
      ·rw [if_pos c18] at H
       have c18b0 : decide (x3_2 < (a0_3.size : Int)) = true := decide_eq_true c18
       clear c18
       by_cases c19 : 0 ≤ x3_2
       ·rw [if_pos c19] at H
        have c19b0 : decide (0 ≤ x3_2) = true := decide_eq_true c19
        clear c19
        by_cases c21 : (bt a0_3 x3_2) < 32
        ·rw [if_pos c21] at H
         have c21b0 : decide ((bt a0_3 x3_2) < 32) = true := decide_eq_true c21
         clear c21
         obtain rfl := Option.some.inj H
         have hcz22_0 : wr.cell? ⟨gb257, 0, none⟩ = some (.int .i64 a0_0) := (blk_cell BK257.out 0).trans rfl
         have hcz22_1 : wr.cell? ⟨gb257, 1, none⟩ = some (.int .i64 a0_1) := (blk_cell BK257.out 1).trans rfl
         have hcz22_2 : wr.cell? ⟨gb257, 2, none⟩ = some (.int .i64 a0_2) := (blk_cell BK257.out 2).trans rfl
         have hcz22_3 : wr.cell? ⟨gb257, 3, none⟩ = some (.string a0_3) := (blk_cell BK257.out 3).trans rfl
         have hfz22_0 := blk_frozen BK257.out 0
         have hfz22_1 := blk_frozen BK257.out 1
         have hfz22_2 := blk_frozen BK257.out 2
         have hfz22_3 := blk_frozen BK257.out 3
         have p20 : 0 ≤ (x3_2 : Int) := of_decide_eq_true (by first | (with_reducible assumption) | assumption)
         have q20 : x3_2 < (a0_3.size : Int) := of_decide_eq_true (by first | (with_reducible assumption) | assumption)
         have hx20 := bt_at a0_3 x3_2
         replace p20 := eq_true p20
         replace q20 := eq_true q20
         go_wp2
         go_ret
         exact ⟨by first | rfl | (simp [errW_none, errW_some] <;> rfl) | (simp [*, errW_none, errW_some] <;> rfl), by repeat (first | (with_reducible first | exact HB.out | apply below_alloc | apply pw_below_drewN | apply below_drew1 | refine below_set ?_ GE257.out) | exact HB.out)⟩
        ·rw [if_neg c21] at H
         have c21b0 : decide ((bt a0_3 x3_2) < 32) = false := decide_eq_false c21
         clear c21
         by_cases c24 : (bt a0_3 x3_2) > 126
         ·rw [if_pos c24] at H
          have c24b0 : decide (126 < (bt a0_3 x3_2)) = true := decide_eq_true c24
          clear c24
          obtain rfl := Option.some.inj H
          have hcz25_0 : wr.cell? ⟨gb257, 0, none⟩ = some (.int .i64 a0_0) := (blk_cell BK257.out 0).trans rfl
          have hcz25_1 : wr.cell? ⟨gb257, 1, none⟩ = some (.int .i64 a0_1) := (blk_cell BK257.out 1).trans rfl
          have hcz25_2 : wr.cell? ⟨gb257, 2, none⟩ = some (.int .i64 a0_2) := (blk_cell BK257.out 2).trans rfl
          have hcz25_3 : wr.cell? ⟨gb257, 3, none⟩ = some (.string a0_3) := (blk_cell BK257.out 3).trans rfl
          have hfz25_0 := blk_frozen BK257.out 0
          have hfz25_1 := blk_frozen BK257.out 1
          have hfz25_2 := blk_frozen BK257.out 2
          have hfz25_3 := blk_frozen BK257.out 3
          have p20 : 0 ≤ (x3_2 : Int) := of_decide_eq_true (by first | (with_reducible assumption) | assumption)
          have q20 : x3_2 < (a0_3.size : Int) := of_decide_eq_true (by first | (with_reducible assumption) | assumption)
          have hx20 := bt_at a0_3 x3_2
          replace p20 := eq_true p20
          replace q20 := eq_true q20
          have p23 : 0 ≤ (x3_2 : Int) := of_decide_eq_true (by first | (with_reducible assumption) | assumption)
          have q23 : x3_2 < (a0_3.size : Int) := of_decide_eq_true (by first | (with_reducible assumption) | assumption)
          have hx23 := bt_at a0_3 x3_2
          replace p23 := eq_true p23
          replace q23 := eq_true q23
          go_wp2
          go_ret
          exact ⟨by first | rfl | (simp [errW_none, errW_some] <;> rfl) | (simp [*, errW_none, errW_some] <;> rfl), by repeat (first | (with_reducible first | exact HB.out | apply below_alloc | apply pw_below_drewN | apply below_drew1 | refine below_set ?_ GE257.out) | exact HB.out)⟩
         ·rw [if_neg c24] at H
          have c24b0 : decide (126 < (bt a0_3 x3_2)) = false := decide_eq_false c24
          clear c24
          have H' := Aside0.mk H
          clear H
          have hcz26_0 : wr.cell? ⟨gb257, 0, none⟩ = some (.int .i64 a0_0) := (blk_cell BK257.out 0).trans rfl
          have hcz26_1 : wr.cell? ⟨gb257, 1, none⟩ = some (.int .i64 a0_1) := (blk_cell BK257.out 1).trans rfl
          have hcz26_2 : wr.cell? ⟨gb257, 2, none⟩ = some (.int .i64 a0_2) := (blk_cell BK257.out 2).trans rfl
          have hcz26_3 : wr.cell? ⟨gb257, 3, none⟩ = some (.string a0_3) := (blk_cell BK257.out 3).trans rfl
          have hfz26_0 := blk_frozen BK257.out 0
          have hfz26_1 := blk_frozen BK257.out 1
          have hfz26_2 := blk_frozen BK257.out 2
          have hfz26_3 := blk_frozen BK257.out 3
          have p20 : 0 ≤ (x3_2 : Int) := of_decide_eq_true (by first | (with_reducible assumption) | assumption)
          have q20 : x3_2 < (a0_3.size : Int) := of_decide_eq_true (by first | (with_reducible assumption) | assumption)
          have hx20 := bt_at a0_3 x3_2
          replace p20 := eq_true p20
          replace q20 := eq_true q20
          have p23 : 0 ≤ (x3_2 : Int) := of_decide_eq_true (by first | (with_reducible assumption) | assumption)
          have q23 : x3_2 < (a0_3.size : Int) := of_decide_eq_true (by first | (with_reducible assumption) | assumption)
          have hx23 := bt_at a0_3 x3_2
          replace p23 := eq_true p23
          replace q23 := eq_true q23
          go_wp2
          go_roundg k2
          case measure => have := HJ1.out; have := HK2.out; omega
          case rel => exact ⟨(wrap64 (x3_2 + 1)), (by first | rfl | (simp; done) | (simp [*]; done)), H', ⟨by have := HJ1.out; have := HK2.out; omega⟩, ⟨bS BK257.out⟩, ⟨by repeat (first | (with_reducible first | exact HB.out | apply below_alloc | apply pw_below_drewN | apply below_drew1 | refine below_set ?_ GE257.out) | exact HB.out)⟩⟩
       ·rw [if_neg c19] at H
        exact absurd H (by simp)
      ·rw [if_neg c18] at H
       have c18b0 : decide (x3_2 < (a0_3.size : Int)) = false := decide_eq_false c18
       clear c18
       obtain rfl := Option.some.inj H
       have hcz27_0 : wr.cell? ⟨gb257, 0, none⟩ = some (.int .i64 a0_0) := (blk_cell BK257.out 0).trans rfl
       have hcz27_1 : wr.cell? ⟨gb257, 1, none⟩ = some (.int .i64 a0_1) := (blk_cell BK257.out 1).trans rfl
       have hcz27_2 : wr.cell? ⟨gb257, 2, none⟩ = some (.int .i64 a0_2) := (blk_cell BK257.out 2).trans rfl
       have hcz27_3 : wr.cell? ⟨gb257, 3, none⟩ = some (.string a0_3) := (blk_cell BK257.out 3).trans rfl
       have hfz27_0 := blk_frozen BK257.out 0
       have hfz27_1 := blk_frozen BK257.out 1
       have hfz27_2 := blk_frozen BK257.out 2
       have hfz27_3 := blk_frozen BK257.out 3
       go_wp2
       go_ret
       exact ⟨by first | rfl | (simp [errW_none, errW_some] <;> rfl) | (simp [*, errW_none, errW_some] <;> rfl), by repeat (first | (with_reducible first | exact HB.out | apply below_alloc | apply pw_below_drewN | apply below_drew1 | refine below_set ?_ GE257.out) | exact HB.out)⟩

/-! ### rollcallref17_One: function 36 -/
def rollcallref17_One.f (k : Nat) (a0_0 : ByteArray) (a0_1 : Bool) (a0_2 : Int) (a0_3 : Int) (a0_4 : Int) (a0_5 : ByteArray) : Option (Bool) := (rollcallref03_Is.f k a0_0).bind fun t259 => (if t259 = true then (if a0_1 = true then ((rollcallref04_May.f k a0_2 a0_3 a0_4 a0_5).bind fun t260 => (some t260)) else (some (a0_2 == 0 && (a0_3 == 0 && (a0_4 == 0 && (a0_5.toList == ([] : List UInt8))))))) else (some false))
set_option maxHeartbeats 8000000 in
set_option maxRecDepth 100000 in
theorem rollcallref17_One.calls (k : Nat) (a0_0 : ByteArray) (a0_1 : Bool) (a0_2 : Int) (a0_3 : Int) (a0_4 : Int) (a0_5 : ByteArray) (r : Bool) (w : World) (h : rollcallref17_One.f k a0_0 a0_1 a0_2 a0_3 a0_4 a0_5 = some r) :
  Calls Try.prog 36 #[.agg #[.string a0_0, .bool a0_1, .int .i64 a0_2, .int .i64 a0_3, .int .i64 a0_4, .string a0_5]] w fun e w' => e = .returned (.bool r) ∧ Below w.heap.size w w' := by
 have hu34 := Try.underlying34
 have hu32 := Try.underlying32
 have HB := Aside0.mk (Below.refl w.heap.size w)
 have H : ((rollcallref03_Is.f k a0_0).bind fun t259 => (if t259 = true then (if a0_1 = true then ((rollcallref04_May.f k a0_2 a0_3 a0_4 a0_5).bind fun t260 => (some t260)) else (some (a0_2 == 0 && (a0_3 == 0 && (a0_4 == 0 && (a0_5.toList == ([] : List UInt8))))))) else (some false))) = some r := h
 clear h
 replace H := Option.bind_eq_some_iff.mp H
 obtain ⟨t259, A20, H⟩ := H
 replace H : (if t259 = true then (if a0_1 = true then ((rollcallref04_May.f k a0_2 a0_3 a0_4 a0_5).bind fun t260 => (some t260)) else (some (a0_2 == 0 && (a0_3 == 0 && (a0_4 == 0 && (a0_5.toList == ([] : List UInt8))))))) else (some false)) = some r := H
 have A2 := Aside0.mk A20
 clear A20
 by_cases c3 : t259 = true
 ·subst c3
  have H1 : (if a0_1 = true then ((rollcallref04_May.f k a0_2 a0_3 a0_4 a0_5).bind fun t260 => (some t260)) else (some (a0_2 == 0 && (a0_3 == 0 && (a0_4 == 0 && (a0_5.toList == ([] : List UInt8))))))) = some r := by rw [if_pos rfl] at H; exact H
  clear H
  have H := H1
  clear H1
  by_cases c4 : a0_1 = true
  ·subst c4
   have H1 : ((rollcallref04_May.f k a0_2 a0_3 a0_4 a0_5).bind fun t260 => (some t260)) = some r := by rw [if_pos rfl] at H; exact H
   clear H
   have H := H1
   clear H1
   replace H := Option.bind_eq_some_iff.mp H
   obtain ⟨t260, A50, H⟩ := H
   replace H : (some t260) = some r := H
   have A5 := Aside0.mk A50
   clear A50
   obtain rfl := Option.some.inj H
   go_enter Try.func36, Try.ntmps36
   go_wp2_with (first | ((with_reducible refine gate_dst (N := 1) rfl ?_); refine box_event ?hg (N := 1) ?hd (cs := #[.string a0_0, .bool true, .int .i64 a0_2, .int .i64 a0_3, .int .i64 a0_4, .string a0_5]) (t := 34) ?hr ?_; (case hd => rfl); (case hg => rfl); (case hr => first | (go_simp; done) | (go_simp; rfl)); intro gb258 hg w6 hbox hb; have BK258 := Aside0.mk (hbox); have GW258 := Aside0.mk ((by rw [hg]; exact (below_size (hS HB.out)) : w.heap.size ≤ gb258)); have GE258 := Aside0.mk ((by rw [hg]; exact (below_size (hS HB.out)) : w.heap.size ≤ gb258)); replace HB := Aside0.mk (below_step (hS HB.out) hb); clear hb hbox hg; have hcz7_0 : w6.cell? ⟨gb258, 0, none⟩ = some (.string a0_0) := (blk_cell BK258.out 0).trans rfl; have hcz7_1 : w6.cell? ⟨gb258, 1, none⟩ = some (.bool true) := (blk_cell BK258.out 1).trans rfl; have hcz7_2 : w6.cell? ⟨gb258, 2, none⟩ = some (.int .i64 a0_2) := (blk_cell BK258.out 2).trans rfl; have hcz7_3 : w6.cell? ⟨gb258, 3, none⟩ = some (.int .i64 a0_3) := (blk_cell BK258.out 3).trans rfl; have hcz7_4 : w6.cell? ⟨gb258, 4, none⟩ = some (.int .i64 a0_4) := (blk_cell BK258.out 4).trans rfl; have hcz7_5 : w6.cell? ⟨gb258, 5, none⟩ = some (.string a0_5) := (blk_cell BK258.out 5).trans rfl; have hfz7_0 := blk_frozen BK258.out 0; have hfz7_1 := blk_frozen BK258.out 1; have hfz7_2 := blk_frozen BK258.out 2; have hfz7_3 := blk_frozen BK258.out 3; have hfz7_4 := blk_frozen BK258.out 4; have hfz7_5 := blk_frozen BK258.out 5) | ((with_reducible refine gate_callee (f := 56) rfl ?_); refine goesL_ (some 5) rfl rfl Try.func56 (by kernel_rfl) rfl #[.string a0_0] rfl (by (try simp only [List.map_toArray, List.map_cons, List.map_nil]); first | done | rfl | (simp only [List.length_drop, List.length_take]; rfl)) ?_; (with_reducible refine (rollcallref03_Is.calls k a0_0 true _ A2.out).mono ?_); rintro e w' ⟨rfl, ⟨nd, rfl⟩⟩; refine ⟨_, rfl, ?_⟩) | ((with_reducible refine gate_callee (f := 57) rfl ?_); refine goesL_ (some 11) rfl rfl Try.func57 (by kernel_rfl) rfl #[.agg #[.int .i64 a0_2, .int .i64 a0_3, .int .i64 a0_4, .string a0_5]] rfl (by (try simp only [List.map_toArray, List.map_cons, List.map_nil]); first | done | rfl | (simp only [List.length_drop, List.length_take]; rfl)) ?_; (with_reducible refine (rollcallref04_May.calls k a0_2 a0_3 a0_4 a0_5 t260 _ A5.out).mono ?_); rintro e w8 ⟨rfl, hb⟩; refine ⟨_, rfl, ?_⟩; replace BK258 := Aside0.mk (blk_below (bS BK258.out) hb); replace HB := Aside0.mk (below_step (hS HB.out) hb); (try clear hb); (try clear hb2); (try clear hk); (try clear hi)))
   go_ret
   exact ⟨by first | rfl | (simp [errW_none, errW_some] <;> rfl) | (simp [*, errW_none, errW_some] <;> rfl), by repeat (first | (with_reducible first | exact HB.out | apply below_alloc | apply pw_below_drewN | apply below_drew1 | refine below_set ?_ GE258.out) | exact HB.out)⟩
  ·replace c4 := Bool.eq_false_iff.mpr c4
   subst c4
   have H1 : (some (a0_2 == 0 && (a0_3 == 0 && (a0_4 == 0 && (a0_5.toList == ([] : List UInt8)))))) = some r := by rw [if_neg (show ¬ (false = true) by decide)] at H; exact H
   clear H
   have H := H1
   clear H1
   obtain rfl := Option.some.inj H
   go_enter Try.func36, Try.ntmps36
   go_wp2_with (first | ((with_reducible refine gate_dst (N := 1) rfl ?_); refine box_event ?hg (N := 1) ?hd (cs := #[.string a0_0, .bool false, .int .i64 a0_2, .int .i64 a0_3, .int .i64 a0_4, .string a0_5]) (t := 34) ?hr ?_; (case hd => rfl); (case hg => rfl); (case hr => first | (go_simp; done) | (go_simp; rfl)); intro gb258 hg w9 hbox hb; have BK258 := Aside0.mk (hbox); have GW258 := Aside0.mk ((by rw [hg]; exact (below_size (hS HB.out)) : w.heap.size ≤ gb258)); have GE258 := Aside0.mk ((by rw [hg]; exact (below_size (hS HB.out)) : w.heap.size ≤ gb258)); replace HB := Aside0.mk (below_step (hS HB.out) hb); clear hb hbox hg; have hcz10_0 : w9.cell? ⟨gb258, 0, none⟩ = some (.string a0_0) := (blk_cell BK258.out 0).trans rfl; have hcz10_1 : w9.cell? ⟨gb258, 1, none⟩ = some (.bool false) := (blk_cell BK258.out 1).trans rfl; have hcz10_2 : w9.cell? ⟨gb258, 2, none⟩ = some (.int .i64 a0_2) := (blk_cell BK258.out 2).trans rfl; have hcz10_3 : w9.cell? ⟨gb258, 3, none⟩ = some (.int .i64 a0_3) := (blk_cell BK258.out 3).trans rfl; have hcz10_4 : w9.cell? ⟨gb258, 4, none⟩ = some (.int .i64 a0_4) := (blk_cell BK258.out 4).trans rfl; have hcz10_5 : w9.cell? ⟨gb258, 5, none⟩ = some (.string a0_5) := (blk_cell BK258.out 5).trans rfl; have hfz10_0 := blk_frozen BK258.out 0; have hfz10_1 := blk_frozen BK258.out 1; have hfz10_2 := blk_frozen BK258.out 2; have hfz10_3 := blk_frozen BK258.out 3; have hfz10_4 := blk_frozen BK258.out 4; have hfz10_5 := blk_frozen BK258.out 5) | ((with_reducible refine gate_callee (f := 56) rfl ?_); refine goesL_ (some 5) rfl rfl Try.func56 (by kernel_rfl) rfl #[.string a0_0] rfl (by (try simp only [List.map_toArray, List.map_cons, List.map_nil]); first | done | rfl | (simp only [List.length_drop, List.length_take]; rfl)) ?_; (with_reducible refine (rollcallref03_Is.calls k a0_0 true _ A2.out).mono ?_); rintro e w' ⟨rfl, ⟨nd, rfl⟩⟩; refine ⟨_, rfl, ?_⟩))
   go_ret
   exact ⟨by first | rfl | (simp [errW_none, errW_some] <;> rfl) | (simp [*, errW_none, errW_some] <;> rfl), by repeat (first | (with_reducible first | exact HB.out | apply below_alloc | apply pw_below_drewN | apply below_drew1 | refine below_set ?_ GE258.out) | exact HB.out)⟩
 ·replace c3 := Bool.eq_false_iff.mpr c3
  subst c3
  have H1 : (some false) = some r := by rw [if_neg (show ¬ (false = true) by decide)] at H; exact H
  clear H
  have H := H1
  clear H1
  obtain rfl := Option.some.inj H
  go_enter Try.func36, Try.ntmps36
  go_wp2_with (first | ((with_reducible refine gate_dst (N := 1) rfl ?_); refine box_event ?hg (N := 1) ?hd (cs := #[.string a0_0, .bool a0_1, .int .i64 a0_2, .int .i64 a0_3, .int .i64 a0_4, .string a0_5]) (t := 34) ?hr ?_; (case hd => rfl); (case hg => rfl); (case hr => first | (go_simp; done) | (go_simp; rfl)); intro gb258 hg w11 hbox hb; have BK258 := Aside0.mk (hbox); have GW258 := Aside0.mk ((by rw [hg]; exact (below_size (hS HB.out)) : w.heap.size ≤ gb258)); have GE258 := Aside0.mk ((by rw [hg]; exact (below_size (hS HB.out)) : w.heap.size ≤ gb258)); replace HB := Aside0.mk (below_step (hS HB.out) hb); clear hb hbox hg; have hcz12_0 : w11.cell? ⟨gb258, 0, none⟩ = some (.string a0_0) := (blk_cell BK258.out 0).trans rfl; have hcz12_1 : w11.cell? ⟨gb258, 1, none⟩ = some (.bool a0_1) := (blk_cell BK258.out 1).trans rfl; have hcz12_2 : w11.cell? ⟨gb258, 2, none⟩ = some (.int .i64 a0_2) := (blk_cell BK258.out 2).trans rfl; have hcz12_3 : w11.cell? ⟨gb258, 3, none⟩ = some (.int .i64 a0_3) := (blk_cell BK258.out 3).trans rfl; have hcz12_4 : w11.cell? ⟨gb258, 4, none⟩ = some (.int .i64 a0_4) := (blk_cell BK258.out 4).trans rfl; have hcz12_5 : w11.cell? ⟨gb258, 5, none⟩ = some (.string a0_5) := (blk_cell BK258.out 5).trans rfl; have hfz12_0 := blk_frozen BK258.out 0; have hfz12_1 := blk_frozen BK258.out 1; have hfz12_2 := blk_frozen BK258.out 2; have hfz12_3 := blk_frozen BK258.out 3; have hfz12_4 := blk_frozen BK258.out 4; have hfz12_5 := blk_frozen BK258.out 5) | ((with_reducible refine gate_callee (f := 56) rfl ?_); refine goesL_ (some 5) rfl rfl Try.func56 (by kernel_rfl) rfl #[.string a0_0] rfl (by (try simp only [List.map_toArray, List.map_cons, List.map_nil]); first | done | rfl | (simp only [List.length_drop, List.length_take]; rfl)) ?_; (with_reducible refine (rollcallref03_Is.calls k a0_0 false _ A2.out).mono ?_); rintro e w' ⟨rfl, ⟨nd, rfl⟩⟩; refine ⟨_, rfl, ?_⟩))
  go_ret
  exact ⟨by first | rfl | (simp [errW_none, errW_some] <;> rfl) | (simp [*, errW_none, errW_some] <;> rfl), by repeat (first | (with_reducible first | exact HB.out | apply below_alloc | apply pw_below_drewN | apply below_drew1 | refine below_set ?_ GE258.out) | exact HB.out)⟩

/-! ### rollcallref17_place: function 65 -/
def rollcallref17_place.l0 : Nat → ByteArray → Int → List (S34) → Bool → Option (Int)
 | 0, _, _, _, _ => none
 | k + 1, x1, x5, x262000, x262001 => if x5 < (x262000.length : Int) then (if 0 ≤ x5 then (if ((rd_T34 x262000 x5).f0).toList = x1.toList then (some x5) else (rollcallref17_place.l0 k x1 (wrap64 (x5 + 1)) x262000 x262001)) else (none)) else (some (-1))
def rollcallref17_place.f (k : Nat) (l0_0 : List (S34)) (a0_1 : Bool) (a1 : ByteArray) : Option (Int) := rollcallref17_place.l0 k a1 0 l0_0 a0_1
set_option maxHeartbeats 8000000 in
set_option maxRecDepth 100000 in
theorem rollcallref17_place.calls (k : Nat) (A0_0 : Option Addr) (c0_0 : Nat) (l0_0 : List (S34)) (a0_1 : Bool) (a1 : ByteArray) (r : Int) (w : World) (hr0_0 : Kd.C k34 w A0_0 l0_0.length l0_0) (hc0_0 : l0_0.length ≤ c0_0) (h : rollcallref17_place.f k l0_0 a0_1 a1 = some r) :
  Calls Try.prog 65 #[.agg #[.slice A0_0 l0_0.length c0_0, .bool a0_1], .string a1] w fun e w' => e = .returned (.int .i64 r) ∧ Below w.heap.size w w' := by
 have hu26 := Try.underlying26
 have HR0_0 := Aside0.mk hr0_0
 have HC0_0 := Aside0.mk hc0_0
 clear hr0_0 hc0_0
 have HB := Aside0.mk (Below.refl w.heap.size w)
 have H : (rollcallref17_place.l0 k a1 0 l0_0 a0_1) = some r := h
 clear h
 have H' := Aside0.mk H
 clear H
 go_enter Try.func65, Try.ntmps65
 go_wp2_with (first | ((with_reducible refine gate_dst (N := 2) rfl ?_); refine box_event ?hg (N := 2) ?hd (cs := #[.slice A0_0 l0_0.length c0_0, .bool a0_1]) (t := 26) ?hr ?_; (case hd => rfl); (case hg => rfl); (case hr => first | (go_simp; done) | (go_simp; rfl)); intro gb261 hg w3 hbox hb; have BK261 := Aside0.mk (hbox); have GW261 := Aside0.mk ((by rw [hg]; exact (below_size (hS HB.out)) : w.heap.size ≤ gb261)); have GE261 := Aside0.mk ((by rw [hg]; exact (below_size (hS HB.out)) : w.heap.size ≤ gb261)); replace HB := Aside0.mk (below_step (hS HB.out) hb); clear hb hbox hg))
 go_loopg [5] k (fun kq v5 w' => ∃ (x5_1 : Int), v5 = .int .i64 x5_1 ∧ Aside0 (rollcallref17_place.l0 kq a1 x5_1 l0_0 a0_1 = some r) ∧ Aside0 (kq ≤ k) ∧ Aside0 (w'.heap[gb261]? = some (.cells #[(.slice A0_0 l0_0.length c0_0), .bool a0_1] 26 (0, 0))) ∧ Aside0 (Below w.heap.size w w'))
 case atStart => exact ⟨(0), (by first | rfl | (simp; done) | (simp [*]; done)), H', ⟨Nat.le_refl _⟩, ⟨bS BK261.out⟩, ⟨by repeat (first | (with_reducible first | exact HB.out | apply below_alloc | apply pw_below_drewN | apply below_drew1 | refine below_set ?_ GE261.out) | exact HB.out)⟩⟩
 case round =>
  clear H'
  try clear p2
  obtain ⟨x5_1, rfl, HA, HK1, BK261, HB⟩ := hrel
  cases gk with
  | zero => exact absurd HA.out (by simp [rollcallref17_place.l0])
  | succ k1 =>
   have H := HA.out
   clear HA
   simp only [rollcallref17_place.l0] at H
   by_cases c4 : x5_1 < (l0_0.length : Int)
   ·rw [if_pos c4] at H
    have c4b0 : decide (x5_1 < (l0_0.length : Int)) = true := decide_eq_true c4
    clear c4
    by_cases c5 : 0 ≤ x5_1
    ·rw [if_pos c5] at H
     have c5b0 : decide (0 ≤ x5_1) = true := decide_eq_true c5
     clear c5
     by_cases c6 : ((rd_T34 l0_0 x5_1).f0).toList = a1.toList
     ·rw [if_pos c6] at H
      have c6b0 : (((rd_T34 l0_0 x5_1).f0).toList == a1.toList) = true := beq_iff_eq.mpr c6
      have c6b1 : (((rd_T34 l0_0 x5_1).f0).toList != a1.toList) = false := bne_eq_false_iff_eq.mpr c6
      clear c6
      obtain rfl := Option.some.inj H
      have hcz7_0 : wr.cell? ⟨gb261, 0, none⟩ = some (.slice A0_0 l0_0.length c0_0) := (blk_cell BK261.out 0).trans rfl
      have hcz7_1 : wr.cell? ⟨gb261, 1, none⟩ = some (.bool a0_1) := (blk_cell BK261.out 1).trans rfl
      have hfz7_0 := blk_frozen BK261.out 0
      have hfz7_1 := blk_frozen BK261.out 1
      have p262 : 0 ≤ (x5_1 : Int) := of_decide_eq_true (by first | (with_reducible assumption) | assumption)
      have q262 : x5_1 < (l0_0.length : Int) := of_decide_eq_true (by first | (with_reducible assumption) | assumption)
      obtain ⟨ad262, e262, hx262_0, hx262_1, hx262_2, hx262_3, hx262_4, hx262_5⟩ := at_T34 HR0_0.out x5_1 p262 q262
      cases e262
      replace hx262_0 := (HB.out.cell (World.block_lt_of_cell? w _ hx262_0)).trans hx262_0
      replace hx262_1 := (HB.out.cell (World.block_lt_of_cell? w _ hx262_1)).trans hx262_1
      replace hx262_2 := (HB.out.cell (World.block_lt_of_cell? w _ hx262_2)).trans hx262_2
      replace hx262_3 := (HB.out.cell (World.block_lt_of_cell? w _ hx262_3)).trans hx262_3
      replace hx262_4 := (HB.out.cell (World.block_lt_of_cell? w _ hx262_4)).trans hx262_4
      replace hx262_5 := (HB.out.cell (World.block_lt_of_cell? w _ hx262_5)).trans hx262_5
      replace p262 := eq_true p262
      replace q262 := eq_true q262
      go_wp2
      go_ret
      exact ⟨by first | rfl | (simp [errW_none, errW_some] <;> rfl) | (simp [*, errW_none, errW_some] <;> rfl), by repeat (first | (with_reducible first | exact HB.out | apply below_alloc | apply pw_below_drewN | apply below_drew1 | refine below_set ?_ GE261.out) | exact HB.out)⟩
     ·rw [if_neg c6] at H
      have c6b0 : (((rd_T34 l0_0 x5_1).f0).toList == a1.toList) = false := beq_eq_false_iff_ne.mpr c6
      have c6b1 : (((rd_T34 l0_0 x5_1).f0).toList != a1.toList) = true := bne_iff_ne.mpr c6
      have H' := Aside0.mk H
      clear H
      have hcz8_0 : wr.cell? ⟨gb261, 0, none⟩ = some (.slice A0_0 l0_0.length c0_0) := (blk_cell BK261.out 0).trans rfl
      have hcz8_1 : wr.cell? ⟨gb261, 1, none⟩ = some (.bool a0_1) := (blk_cell BK261.out 1).trans rfl
      have hfz8_0 := blk_frozen BK261.out 0
      have hfz8_1 := blk_frozen BK261.out 1
      have p262 : 0 ≤ (x5_1 : Int) := of_decide_eq_true (by first | (with_reducible assumption) | assumption)
      have q262 : x5_1 < (l0_0.length : Int) := of_decide_eq_true (by first | (with_reducible assumption) | assumption)
      obtain ⟨ad262, e262, hx262_0, hx262_1, hx262_2, hx262_3, hx262_4, hx262_5⟩ := at_T34 HR0_0.out x5_1 p262 q262
      cases e262
      replace hx262_0 := (HB.out.cell (World.block_lt_of_cell? w _ hx262_0)).trans hx262_0
      replace hx262_1 := (HB.out.cell (World.block_lt_of_cell? w _ hx262_1)).trans hx262_1
      replace hx262_2 := (HB.out.cell (World.block_lt_of_cell? w _ hx262_2)).trans hx262_2
      replace hx262_3 := (HB.out.cell (World.block_lt_of_cell? w _ hx262_3)).trans hx262_3
      replace hx262_4 := (HB.out.cell (World.block_lt_of_cell? w _ hx262_4)).trans hx262_4
      replace hx262_5 := (HB.out.cell (World.block_lt_of_cell? w _ hx262_5)).trans hx262_5
      replace p262 := eq_true p262
      replace q262 := eq_true q262
      go_wp2
      go_roundg k1
      case measure => have := HK1.out; omega
      case rel => exact ⟨(wrap64 (x5_1 + 1)), (by first | rfl | (simp; done) | (simp [*]; done)), H', ⟨by have := HK1.out; omega⟩, ⟨bS BK261.out⟩, ⟨by repeat (first | (with_reducible first | exact HB.out | apply below_alloc | apply pw_below_drewN | apply below_drew1 | refine below_set ?_ GE261.out) | exact HB.out)⟩⟩
    ·rw [if_neg c5] at H
     exact absurd H (by simp)
   ·rw [if_neg c4] at H
    have c4b0 : decide (x5_1 < (l0_0.length : Int)) = false := decide_eq_false c4
    clear c4
    obtain rfl := Option.some.inj H
    have hcz9_0 : wr.cell? ⟨gb261, 0, none⟩ = some (.slice A0_0 l0_0.length c0_0) := (blk_cell BK261.out 0).trans rfl
    have hcz9_1 : wr.cell? ⟨gb261, 1, none⟩ = some (.bool a0_1) := (blk_cell BK261.out 1).trans rfl
    have hfz9_0 := blk_frozen BK261.out 0
    have hfz9_1 := blk_frozen BK261.out 1
    go_wp2
    go_ret
    exact ⟨by first | rfl | (simp [errW_none, errW_some] <;> rfl) | (simp [*, errW_none, errW_some] <;> rfl), by repeat (first | (with_reducible first | exact HB.out | apply below_alloc | apply pw_below_drewN | apply below_drew1 | refine below_set ?_ GE261.out) | exact HB.out)⟩

end Go.Proofs.Ytmigglldahkngaa.PA
end

section
-- Written by a program of this session (wip/tools/xprint.py), which drives the kit's print.
namespace Go.Proofs.Ytmigglldahkngaa.PA
open Go.RowKit Go.Proofs.YtmigglldahkngaaW.PrintWords Go.Proofs.YtmigglldahkngaaW.PrintLast Go.Proofs.YtmigglldahkngaaW.PrintMore
attribute [local go_sem] max2_int min2_int max_two min_two   -- for this text's walks alone
set_option linter.unusedVariables false
set_option linter.unusedSimpArgs false

/-! ### rollcallref01_Put: function 78 -/
def rollcallref01_Put.l0 : Nat → Int → List Int → Option (ByteArray)
 | 0, _, _ => none
 | k + 1, x0, x3 => if x0 ≥ 128 then (if x3.length < 140737488355328 then (rollcallref01_Put.l0 k (IntKind.u64.wrap (Int.tdiv x0 128)) (x3 ++ [(IntKind.u64.wrap (128 + (Int.tmod x0 128))) % 256])) else (none)) else (if x3.length < 140737488355328 then (some (strOfNums (x3 ++ [(x0) % 256]))) else (none))
def rollcallref01_Put.f (k : Nat) (a0 : Int) : Option (ByteArray) := rollcallref01_Put.l0 k a0 (([] : List Int))
set_option maxHeartbeats 8000000 in
set_option maxRecDepth 100000 in
theorem rollcallref01_Put.calls (k : Nat) (a0 : Int) (r : ByteArray) (w : World) (h : rollcallref01_Put.f k a0 = some r) :
  Calls Try.prog 78 #[.int .u64 a0] w fun e w' => e = .returned (.string r) ∧ Below w.heap.size w w' := by
 have HB := Aside0.mk (Below.refl w.heap.size w)
 have H : (rollcallref01_Put.l0 k a0 (([] : List Int))) = some r := h
 clear h
 obtain ⟨y318, hy318⟩ : ∃ y_ : List Int, y_ = (([] : List Int)) := ⟨_, rfl⟩
 replace H : (rollcallref01_Put.l0 k a0 y318) = some r := by first | (rw [hy318]; with_reducible exact H) | (have H2_ := (Option.bind_some _ _).symm.trans H; rw [hy318]; with_reducible exact H2_) | (have H2_ := (Option.bind_some _ _).symm.trans H; with_reducible exact H2_) | with_reducible exact H | (rw [hy318]; exact H) | exact H
 have Ny318 := Aside0.mk hy318
 clear hy318
 have H' := Aside0.mk H
 clear H
 go_enter Try.func78, Try.ntmps78
 go_wp2_with (first | ((with_reducible refine gate_dst (N := 4) rfl ?_); refine Kd.R_lit (Kd.int .u8) _ 5 ?hg (N := 4) ?hd (xs := ([] : List Int)) (inner := []) (ok := fun _ => True) (okp := fun _ => True) ?hr ?hp (fun _ hk => hk) trivial (Below.refl _ _) (Nat.le_refl _) (by simp) ?_; (case hd => rfl); (case hg => rfl); (case hr => first | (go_simp; done) | (go_simp; rfl)); (case hp => exact (Reps.none _ _)); intro v319 w2 ho3 hb hg_ hnew_; clear hg_ hnew_; (first | rw [← Ny318.out] at ho3 | (simp only [Int.reduceToNat] at ho3; rw [← Ny318.out] at ho3)); have HO320 := Aside0.mk (Kd.R_lower ho3 (below_size (hS HB.out))); replace HB := Aside0.mk (below_step (hS HB.out) hb); clear hb ho3))
 go_loopg [0, 3] k (fun kq v0 v3 w' => ∃ (x0_1 : Int) (x3_1 : List Int), v0 = .int .u64 x0_1 ∧ Aside0 (rollcallref01_Put.l0 kq x0_1 x3_1 = some r) ∧ Aside0 (kq ≤ k) ∧ Aside0 (Kd.R (Kd.int .u8) 5 w' w.heap.size (fun _ => True) v3 x3_1) ∧ Aside0 (Below w.heap.size w w'))
 case atStart => exact ⟨(a0), (y318), (by first | rfl | (simp; done) | (simp [*]; done)), H', ⟨Nat.le_refl _⟩, ⟨rS HO320.out⟩, ⟨by repeat (first | (with_reducible first | exact HB.out | apply below_alloc | apply pw_below_drewN | apply below_drew1) | exact HB.out)⟩⟩
 case round =>
  clear H'
  try clear p2
  obtain ⟨x0_1, x3_1, rfl, HA, HK1, HO_3, HB⟩ := hrel
  cases gk with
  | zero => exact absurd HA.out (by simp [rollcallref01_Put.l0])
  | succ k1 =>
   have H := HA.out
   clear HA
   simp only [rollcallref01_Put.l0] at H
   by_cases c4 : x0_1 ≥ 128
   ·rw [if_pos c4] at H
    have c4b0 : decide (128 ≤ x0_1) = true := decide_eq_true c4
    clear c4
    by_cases c5 : x3_1.length < 140737488355328
    ·rw [if_pos c5] at H
     have LMc5 := Aside0.mk c5
     clear c5
     obtain ⟨y321, hy321⟩ : ∃ y_ : List Int, y_ = (x3_1 ++ [(IntKind.u64.wrap (128 + (Int.tmod x0_1 128))) % 256]) := ⟨_, rfl⟩
     replace H : (rollcallref01_Put.l0 k1 (IntKind.u64.wrap (Int.tdiv x0_1 128)) y321) = some r := by first | (rw [hy321]; with_reducible exact H) | (have H2_ := (Option.bind_some _ _).symm.trans H; rw [hy321]; with_reducible exact H2_) | (have H2_ := (Option.bind_some _ _).symm.trans H; with_reducible exact H2_) | with_reducible exact H | (rw [hy321]; exact H) | exact H
     have Ny321 := Aside0.mk hy321
     clear hy321
     have H' := Aside0.mk H
     clear H
     go_wp2_with (first | ((with_reducible refine gate_builtin (b := .append) (xs := #[.tmp 7, .tmp 12]) rfl ?_); at_builtin; refine Kd.R_append (Kd.int .u8) (w0 := w) w.heap.size rfl (.tmp 7) (.tmp 12) 119 5 (.int .u8 0) 1 rfl Try.underlying119 info5 rfl (by decide) (by omega) u3 x3_1 ((IntKind.u64.wrap (128 + (Int.tmod x0_1 128))) % 256) [.int .u8 ((IntKind.u64.wrap (128 + (Int.tmod x0_1 128))) % 256)] (fun _ => True) (fun _ => False) rfl rfl ?aP (fun _ hk => hk.elim) ?aF ?aO ?aB ?aS ?aL ?_; (case aP => exact rfl); (case aB => exact (hS HB.out)); (case aF => exact (fun _ _ => trivial)); (case aO => exact (rS HO_3.out)); (case aS => exact (below_size (hS HB.out))); (case aL => have := LMc5.out; omega); intro v322 w6 ho hb hg hat; rw [← Ny321.out] at ho; replace HB := Aside0.mk (hb); have HO323 := Aside0.mk (ho); clear HO_3; clear ho hb hg hat))
     go_roundg k1
     case measure => have := HK1.out; omega
     case rel => exact ⟨(IntKind.u64.wrap (Int.tdiv x0_1 128)), (y321), (by first | rfl | (simp; done) | (simp [*]; done)), H', ⟨by have := HK1.out; omega⟩, ⟨rS HO323.out⟩, ⟨by repeat (first | (with_reducible first | exact HB.out | apply below_alloc | apply pw_below_drewN | apply below_drew1) | exact HB.out)⟩⟩
    ·rw [if_neg c5] at H
     exact absurd H (by simp)
   ·rw [if_neg c4] at H
    have c4b0 : decide (128 ≤ x0_1) = false := decide_eq_false c4
    clear c4
    by_cases c7 : x3_1.length < 140737488355328
    ·rw [if_pos c7] at H
     have LMc7 := Aside0.mk c7
     clear c7
     obtain ⟨y324, hy324⟩ : ∃ y_ : List Int, y_ = (x3_1 ++ [(x0_1) % 256]) := ⟨_, rfl⟩
     replace H : (some (strOfNums y324)) = some r := by first | (rw [hy324]; with_reducible exact H) | (have H2_ := (Option.bind_some _ _).symm.trans H; rw [hy324]; with_reducible exact H2_) | (have H2_ := (Option.bind_some _ _).symm.trans H; with_reducible exact H2_) | with_reducible exact H | (rw [hy324]; exact H) | exact H
     have Ny324 := Aside0.mk hy324
     clear hy324
     obtain rfl := Option.some.inj H
     go_wp2_with (first | ((with_reducible refine gate_builtin (b := .append) (xs := #[.tmp 16, .tmp 19]) rfl ?_); at_builtin; refine Kd.R_append (Kd.int .u8) (w0 := w) w.heap.size rfl (.tmp 16) (.tmp 19) 119 5 (.int .u8 0) 1 rfl Try.underlying119 info5 rfl (by decide) (by omega) u3 x3_1 ((x0_1) % 256) [.int .u8 ((x0_1) % 256)] (fun _ => True) (fun _ => False) rfl rfl ?aP (fun _ hk => hk.elim) ?aF ?aO ?aB ?aS ?aL ?_; (case aP => exact rfl); (case aB => exact (hS HB.out)); (case aF => exact (fun _ _ => trivial)); (case aO => exact (rS HO_3.out)); (case aS => exact (below_size (hS HB.out))); (case aL => have := LMc7.out; omega); intro v325 w8 ho hb hg hat; rw [← Ny324.out] at ho; replace HB := Aside0.mk (hb); have HO326 := Aside0.mk (ho); clear HO_3; clear ho hb hg hat; have hcv9 := own_string (P := Try.prog) Try.underlying119 Try.underlying5 Try.underlying9 (Kd.own_of_R HO326.out)))
     go_ret
     exact ⟨by first | rfl | (simp [errW_none, errW_some] <;> rfl) | (simp [*, errW_none, errW_some] <;> rfl), by repeat (first | (with_reducible first | exact HB.out | apply below_alloc | apply pw_below_drewN | apply below_drew1) | exact HB.out)⟩
    ·rw [if_neg c7] at H
     exact absurd H (by simp)

/-! ### rollcallref01_Text: function 90 -/
def rollcallref01_Text.f (k : Nat) (a0 : ByteArray) : Option (ByteArray) := (rollcallref01_Put.f k (IntKind.u64.wrap ((a0.size : Int)))).bind fun t327 => (if t327.size + a0.size ≤ 9223372036854775807 then (some (t327 ++ a0)) else (none))
set_option maxHeartbeats 8000000 in
set_option maxRecDepth 100000 in
theorem rollcallref01_Text.calls (k : Nat) (a0 : ByteArray) (r : ByteArray) (w : World) (h : rollcallref01_Text.f k a0 = some r) :
  Calls Try.prog 90 #[.string a0] w fun e w' => e = .returned (.string r) ∧ Below w.heap.size w w' := by
 have HB := Aside0.mk (Below.refl w.heap.size w)
 have H : ((rollcallref01_Put.f k (IntKind.u64.wrap ((a0.size : Int)))).bind fun t327 => (if t327.size + a0.size ≤ 9223372036854775807 then (some (t327 ++ a0)) else (none))) = some r := h
 clear h
 replace H := Option.bind_eq_some_iff.mp H
 obtain ⟨t327, A20, H⟩ := H
 replace H : (if t327.size + a0.size ≤ 9223372036854775807 then (some (t327 ++ a0)) else (none)) = some r := H
 have A2 := Aside0.mk A20
 clear A20
 by_cases c3 : t327.size + a0.size ≤ 9223372036854775807
 ·rw [if_pos c3] at H
  have c3b0 := eq_true c3
  have c3b1 : decide (t327.size + a0.size ≤ 9223372036854775807) = true := decide_eq_true c3
  try have c3b2 : (9223372036854775807 < t327.size + a0.size) = False := eq_false (Nat.not_lt.2 c3)
  (try (have c3b3 := c3b0; simp only [ByteArray.size_append] at c3b3))
  (try (have c3b4 := c3b2; simp only [ByteArray.size_append] at c3b4))
  clear c3
  obtain rfl := Option.some.inj H
  go_enter Try.func90, Try.ntmps90
  go_wp2_with (first | ((with_reducible refine gate_callee (f := 78) rfl ?_); refine goesL_ (some 6) rfl rfl Try.func78 (by kernel_rfl) rfl #[.int .u64 (IntKind.u64.wrap ((a0.size : Int)))] rfl (by (try simp only [List.map_toArray, List.map_cons, List.map_nil]); first | done | rfl | (simp only [List.length_drop, List.length_take]; rfl)) ?_; (with_reducible refine (rollcallref01_Put.calls k (IntKind.u64.wrap ((a0.size : Int))) t327 _ A2.out).mono ?_); rintro e w4 ⟨rfl, hb⟩; refine ⟨_, rfl, ?_⟩; replace HB := Aside0.mk (below_step (hS HB.out) hb); (try clear hb); (try clear hb2); (try clear hk); (try clear hi)))
  go_ret
  exact ⟨by first | rfl | (simp [errW_none, errW_some] <;> rfl) | (simp [*, errW_none, errW_some] <;> rfl), by repeat (first | (with_reducible first | exact HB.out | apply below_alloc | apply pw_below_drewN | apply below_drew1) | exact HB.out)⟩
 ·rw [if_neg c3] at H
  exact absurd H (by simp)

/-! ### rollcallref03_Put: function 79 -/
def rollcallref03_Put.f (k : Nat) (a0 : ByteArray) : Option (ByteArray × Bool) := (rollcallref03_Is.f k a0).bind fun t328 => (if t328 = true then ((rollcallref01_Text.f k a0).bind fun t329 => (some (t329, true))) else (some ((⟨#[]⟩ : ByteArray), false)))
set_option maxHeartbeats 8000000 in
set_option maxRecDepth 100000 in
theorem rollcallref03_Put.calls (k : Nat) (a0 : ByteArray) (r1 : ByteArray) (r2 : Bool) (w : World) (h : rollcallref03_Put.f k a0 = some (r1, r2)) :
  Calls Try.prog 79 #[.string a0] w fun e w' => e = .returned (.tuple #[.string r1, .bool r2]) ∧ Below w.heap.size w w' := by
 have HB := Aside0.mk (Below.refl w.heap.size w)
 have H : ((rollcallref03_Is.f k a0).bind fun t328 => (if t328 = true then ((rollcallref01_Text.f k a0).bind fun t329 => (some (t329, true))) else (some ((⟨#[]⟩ : ByteArray), false)))) = some (r1, r2) := h
 clear h
 replace H := Option.bind_eq_some_iff.mp H
 obtain ⟨t328, A20, H⟩ := H
 replace H : (if t328 = true then ((rollcallref01_Text.f k a0).bind fun t329 => (some (t329, true))) else (some ((⟨#[]⟩ : ByteArray), false))) = some (r1, r2) := H
 have A2 := Aside0.mk A20
 clear A20
 by_cases c3 : t328 = true
 ·subst c3
  have H1 : ((rollcallref01_Text.f k a0).bind fun t329 => (some (t329, true))) = some (r1, r2) := by rw [if_pos rfl] at H; exact H
  clear H
  have H := H1
  clear H1
  replace H := Option.bind_eq_some_iff.mp H
  obtain ⟨t329, A40, H⟩ := H
  replace H : (some (t329, true)) = some (r1, r2) := H
  have A4 := Aside0.mk A40
  clear A40
  simp only [Option.some.injEq, Prod.mk.injEq] at H
  obtain ⟨rfl, rfl⟩ := H
  go_enter Try.func79, Try.ntmps79
  go_wp2_with (first | ((with_reducible refine gate_callee (f := 56) rfl ?_); refine goesL_ (some 5) rfl rfl Try.func56 (by kernel_rfl) rfl #[.string a0] rfl (by (try simp only [List.map_toArray, List.map_cons, List.map_nil]); first | done | rfl | (simp only [List.length_drop, List.length_take]; rfl)) ?_; (with_reducible refine (rollcallref03_Is.calls k a0 true _ A2.out).mono ?_); rintro e w' ⟨rfl, ⟨nd, rfl⟩⟩; refine ⟨_, rfl, ?_⟩) | ((with_reducible refine gate_callee (f := 90) rfl ?_); refine goesL_ (some 8) rfl rfl Try.func90 (by kernel_rfl) rfl #[.string a0] rfl (by (try simp only [List.map_toArray, List.map_cons, List.map_nil]); first | done | rfl | (simp only [List.length_drop, List.length_take]; rfl)) ?_; (with_reducible refine (rollcallref01_Text.calls k a0 t329 _ A4.out).mono ?_); rintro e w5 ⟨rfl, hb⟩; refine ⟨_, rfl, ?_⟩; replace HB := Aside0.mk (below_step (hS HB.out) hb); (try clear hb); (try clear hb2); (try clear hk); (try clear hi)))
  go_ret2
  exact ⟨by first | rfl | (simp [errW_none, errW_some] <;> rfl) | (simp [*, errW_none, errW_some] <;> rfl), by repeat (first | (with_reducible first | exact HB.out | apply below_alloc | apply pw_below_drewN | apply below_drew1) | exact HB.out)⟩
 ·replace c3 := Bool.eq_false_iff.mpr c3
  subst c3
  have H1 : (some ((⟨#[]⟩ : ByteArray), false)) = some (r1, r2) := by rw [if_neg (show ¬ (false = true) by decide)] at H; exact H
  clear H
  have H := H1
  clear H1
  simp only [Option.some.injEq, Prod.mk.injEq] at H
  obtain ⟨rfl, rfl⟩ := H
  go_enter Try.func79, Try.ntmps79
  go_wp2_with (first | ((with_reducible refine gate_callee (f := 56) rfl ?_); refine goesL_ (some 5) rfl rfl Try.func56 (by kernel_rfl) rfl #[.string a0] rfl (by (try simp only [List.map_toArray, List.map_cons, List.map_nil]); first | done | rfl | (simp only [List.length_drop, List.length_take]; rfl)) ?_; (with_reducible refine (rollcallref03_Is.calls k a0 false _ A2.out).mono ?_); rintro e w' ⟨rfl, ⟨nd, rfl⟩⟩; refine ⟨_, rfl, ?_⟩))
  go_ret2
  exact ⟨by first | rfl | (simp [errW_none, errW_some] <;> rfl) | (simp [*, errW_none, errW_some] <;> rfl), by repeat (first | (with_reducible first | exact HB.out | apply below_alloc | apply pw_below_drewN | apply below_drew1) | exact HB.out)⟩

/-! ### rollcallref04_Put: function 80 -/
def rollcallref04_Put.f (k : Nat) (a0_0 : Int) (a0_1 : Int) (a0_2 : Int) (a0_3 : ByteArray) : Option (ByteArray × Bool) := (rollcallref04_May.f k a0_0 a0_1 a0_2 a0_3).bind fun t331 => (if t331 = true then ((some (([(a0_0) % 256, (wrap64 (a0_1 + 128)) % 256] : List Int) : List Int)).bind fun y332 => ((rollcallref01_Put.f k (IntKind.u64.wrap (a0_2))).bind fun t335 => (if (strOfNums y332).size + t335.size ≤ 9223372036854775807 then ((rollcallref01_Text.f k a0_3).bind fun t336 => (if ((strOfNums y332) ++ t335).size + t336.size ≤ 9223372036854775807 then (some (((strOfNums y332) ++ t335) ++ t336, true)) else (none))) else (none)))) else (some ((⟨#[]⟩ : ByteArray), false)))
def rollcallref04_Put.T3 : Bool × List (List Nat × List Nat) := (true, [([], []), ([0], [0]), ([1], [1]), ([], []), ([3], [3]), ([4], [4]), ([5], [5]), ([2, 6], [2, 6]), ([7], [7]), ([], []), ([9], [9]), ([10], [10]), ([11], [11]), ([8, 12], [8, 12]), ([], []), ([14], [14]), ([15, 12], [15]), ([13, 16], [13, 16]), ([17, 16, 0, 1, 2, 3, 4, 5, 6, 7, 8, 9, 10, 11, 12, 13, 14, 15, 16, 17], [17]), ([18, 0, 1, 2, 3, 4, 5, 6, 7, 8, 9, 10, 11, 12, 13, 14, 15, 16, 17, 18], [])])
def rollcallref04_Put.B3 : List Nat := [0, 1, 3, 0, 8, 24, 56, 127, 255, 0, 512, 1536, 3584, 8191, 0, 16384, 56832, 131071, 262143, 524287]
theorem rollcallref04_Put.tab3 : rtab .any (opsOf Try.f80 3) = rollcallref04_Put.T3 := by kernel_rfl
theorem rollcallref04_Put.bits3 : waitsOk rollcallref04_Put.T3.2 rollcallref04_Put.B3 = true := by kernel_rfl
set_option maxHeartbeats 8000000 in
set_option maxRecDepth 100000 in
theorem rollcallref04_Put.calls (k : Nat) (a0_0 : Int) (a0_1 : Int) (a0_2 : Int) (a0_3 : ByteArray) (r1 : ByteArray) (r2 : Bool) (w : World) (h : rollcallref04_Put.f k a0_0 a0_1 a0_2 a0_3 = some (r1, r2)) :
  Calls Try.prog 80 #[.agg #[.int .i64 a0_0, .int .i64 a0_1, .int .i64 a0_2, .string a0_3]] w fun e w' => e = .returned (.tuple #[.string r1, .bool r2]) ∧ Below w.heap.size w w' := by
 have hu32 := Try.underlying32
 have HB := Aside0.mk (Below.refl w.heap.size w)
 have H : ((rollcallref04_May.f k a0_0 a0_1 a0_2 a0_3).bind fun t331 => (if t331 = true then ((some (([(a0_0) % 256, (wrap64 (a0_1 + 128)) % 256] : List Int) : List Int)).bind fun y332 => ((rollcallref01_Put.f k (IntKind.u64.wrap (a0_2))).bind fun t335 => (if (strOfNums y332).size + t335.size ≤ 9223372036854775807 then ((rollcallref01_Text.f k a0_3).bind fun t336 => (if ((strOfNums y332) ++ t335).size + t336.size ≤ 9223372036854775807 then (some (((strOfNums y332) ++ t335) ++ t336, true)) else (none))) else (none)))) else (some ((⟨#[]⟩ : ByteArray), false)))) = some (r1, r2) := h
 clear h
 replace H := Option.bind_eq_some_iff.mp H
 obtain ⟨t331, A20, H⟩ := H
 replace H : (if t331 = true then ((some (([(a0_0) % 256, (wrap64 (a0_1 + 128)) % 256] : List Int) : List Int)).bind fun y332 => ((rollcallref01_Put.f k (IntKind.u64.wrap (a0_2))).bind fun t335 => (if (strOfNums y332).size + t335.size ≤ 9223372036854775807 then ((rollcallref01_Text.f k a0_3).bind fun t336 => (if ((strOfNums y332) ++ t335).size + t336.size ≤ 9223372036854775807 then (some (((strOfNums y332) ++ t335) ++ t336, true)) else (none))) else (none)))) else (some ((⟨#[]⟩ : ByteArray), false))) = some (r1, r2) := H
 have A2 := Aside0.mk A20
 clear A20
 by_cases c3 : t331 = true
 ·subst c3
  have H1 : ((some (([(a0_0) % 256, (wrap64 (a0_1 + 128)) % 256] : List Int) : List Int)).bind fun y332 => ((rollcallref01_Put.f k (IntKind.u64.wrap (a0_2))).bind fun t335 => (if (strOfNums y332).size + t335.size ≤ 9223372036854775807 then ((rollcallref01_Text.f k a0_3).bind fun t336 => (if ((strOfNums y332) ++ t335).size + t336.size ≤ 9223372036854775807 then (some (((strOfNums y332) ++ t335) ++ t336, true)) else (none))) else (none)))) = some (r1, r2) := by rw [if_pos rfl] at H; exact H
  clear H
  have H := H1
  clear H1
  obtain ⟨y332, hy332⟩ : ∃ y_ : List Int, y_ = (([(a0_0) % 256, (wrap64 (a0_1 + 128)) % 256] : List Int)) := ⟨_, rfl⟩
  replace H : ((rollcallref01_Put.f k (IntKind.u64.wrap (a0_2))).bind fun t335 => (if (strOfNums y332).size + t335.size ≤ 9223372036854775807 then ((rollcallref01_Text.f k a0_3).bind fun t336 => (if ((strOfNums y332) ++ t335).size + t336.size ≤ 9223372036854775807 then (some (((strOfNums y332) ++ t335) ++ t336, true)) else (none))) else (none))) = some (r1, r2) := by first | (rw [hy332]; with_reducible exact H) | (have H2_ := (Option.bind_some _ _).symm.trans H; rw [hy332]; with_reducible exact H2_) | (have H2_ := (Option.bind_some _ _).symm.trans H; with_reducible exact H2_) | with_reducible exact H | (rw [hy332]; exact H) | exact H
  have Ny332 := Aside0.mk hy332
  clear hy332
  replace H := Option.bind_eq_some_iff.mp H
  obtain ⟨t335, A40, H⟩ := H
  replace H : (if (strOfNums y332).size + t335.size ≤ 9223372036854775807 then ((rollcallref01_Text.f k a0_3).bind fun t336 => (if ((strOfNums y332) ++ t335).size + t336.size ≤ 9223372036854775807 then (some (((strOfNums y332) ++ t335) ++ t336, true)) else (none))) else (none)) = some (r1, r2) := H
  have A4 := Aside0.mk A40
  clear A40
  by_cases c5 : (strOfNums y332).size + t335.size ≤ 9223372036854775807
  ·rw [if_pos c5] at H
   have c5b0 := eq_true c5
   have c5b1 : decide ((strOfNums y332).size + t335.size ≤ 9223372036854775807) = true := decide_eq_true c5
   try have c5b2 : (9223372036854775807 < (strOfNums y332).size + t335.size) = False := eq_false (Nat.not_lt.2 c5)
   (try (have c5b3 := c5b0; simp only [ByteArray.size_append] at c5b3))
   (try (have c5b4 := c5b2; simp only [ByteArray.size_append] at c5b4))
   clear c5
   replace H := Option.bind_eq_some_iff.mp H
   obtain ⟨t336, A60, H⟩ := H
   replace H : (if ((strOfNums y332) ++ t335).size + t336.size ≤ 9223372036854775807 then (some (((strOfNums y332) ++ t335) ++ t336, true)) else (none)) = some (r1, r2) := H
   have A6 := Aside0.mk A60
   clear A60
   by_cases c7 : ((strOfNums y332) ++ t335).size + t336.size ≤ 9223372036854775807
   ·rw [if_pos c7] at H
    have c7b0 := eq_true c7
    have c7b1 : decide (((strOfNums y332) ++ t335).size + t336.size ≤ 9223372036854775807) = true := decide_eq_true c7
    try have c7b2 : (9223372036854775807 < ((strOfNums y332) ++ t335).size + t336.size) = False := eq_false (Nat.not_lt.2 c7)
    (try (have c7b3 := c7b0; simp only [ByteArray.size_append] at c7b3))
    (try (have c7b4 := c7b2; simp only [ByteArray.size_append] at c7b4))
    clear c7
    simp only [Option.some.injEq, Prod.mk.injEq] at H
    obtain ⟨rfl, rfl⟩ := H
    go_enter Try.func80, Try.ntmps80
    try go_wp2_with (first | ((with_reducible refine gate_dst (N := 1) rfl ?_); refine box_event ?hg (N := 1) ?hd (cs := #[.int .i64 a0_0, .int .i64 a0_1, .int .i64 a0_2, .string a0_3]) (t := 32) ?hr ?_; (case hd => rfl); (case hg => rfl); (case hr => first | (go_simp; done) | (go_simp; rfl)); intro gb330 hg w8 hbox hb; have BK330 := Aside0.mk (hbox); have GW330 := Aside0.mk ((by rw [hg]; exact (below_size (hS HB.out)) : w.heap.size ≤ gb330)); have GE330 := Aside0.mk ((by rw [hg]; exact (below_size (hS HB.out)) : w.heap.size ≤ gb330)); replace HB := Aside0.mk (below_step (hS HB.out) hb); clear hb hbox hg; have hcz9_0 : w8.cell? ⟨gb330, 0, none⟩ = some (.int .i64 a0_0) := (blk_cell BK330.out 0).trans rfl; have hcz9_1 : w8.cell? ⟨gb330, 1, none⟩ = some (.int .i64 a0_1) := (blk_cell BK330.out 1).trans rfl; have hcz9_2 : w8.cell? ⟨gb330, 2, none⟩ = some (.int .i64 a0_2) := (blk_cell BK330.out 2).trans rfl; have hcz9_3 : w8.cell? ⟨gb330, 3, none⟩ = some (.string a0_3) := (blk_cell BK330.out 3).trans rfl; have hfz9_0 := blk_frozen BK330.out 0; have hfz9_1 := blk_frozen BK330.out 1; have hfz9_2 := blk_frozen BK330.out 2; have hfz9_3 := blk_frozen BK330.out 3) | ((with_reducible refine gate_callee (f := 57) rfl ?_); refine goesL_ (some 5) rfl rfl Try.func57 (by kernel_rfl) rfl #[.agg #[.int .i64 a0_0, .int .i64 a0_1, .int .i64 a0_2, .string a0_3]] rfl (by (try simp only [List.map_toArray, List.map_cons, List.map_nil]); first | done | rfl | (simp only [List.length_drop, List.length_take]; rfl)) ?_; (with_reducible refine (rollcallref04_May.calls k a0_0 a0_1 a0_2 a0_3 true _ A2.out).mono ?_); rintro e w10 ⟨rfl, hb⟩; refine ⟨_, rfl, ?_⟩; replace BK330 := Aside0.mk (blk_below (bS BK330.out) hb); replace HB := Aside0.mk (below_step (hS HB.out) hb); (try clear hb); (try clear hb2); (try clear hk); (try clear hi)))
    replace BK330 := Aside0.mk (blk_drew BK330.out)
    replace HB := Aside0.mk (below_drew1 HB.out)
    refine start_ (n := 20) (S := fun w' => w'.cell? ⟨gb330, 0, none⟩ = some (.int .i64 a0_0) ∧ w'.cell? ⟨gb330, 1, none⟩ = some (.int .i64 a0_1) ∧ w'.cell? ⟨gb330, 2, none⟩ = some (.int .i64 a0_2) ∧ w'.cell? ⟨gb330, 3, none⟩ = some (.string a0_3)) (ds := []) #[false, false, false, false, false, false, false, false, false, false, false, false, false, false, false, false, false, false, false, false] (by kernel_rfl) rfl rfl ⟨(blk_cell BK330.out 0).trans rfl, (blk_cell BK330.out 1).trans rfl, (blk_cell BK330.out 2).trans rfl, (blk_cell BK330.out 3).trans rfl⟩ (fun hHeld => ?_); refine with_tabW rollcallref04_Put.tab3 rollcallref04_Put.bits3 (fun HT_ HW_ => ?_)
    generalize w10.drew = w11 at BK330 HB hHeld ⊢
    refine pure_ (i := 0) (N := some 7) (v := ?_) (a' := ?_) #[true, false, false, false, false, false, false, false, false, false, false, false, false, false, false, false, false, false, false, false] rfl rfl (any_of HT_.out (by kernel_rfl)) (fun _ _ _ h => h) (Or.inl ⟨by rfl, ?_⟩) ?_ ?_
    rotate_left
    ·intro w'
     go_simp
     with_reducible rfl
    rotate_left
    ·simp only [Act.put, List.setIfInBounds_toArray, List.set_cons_zero, List.set_cons_succ, i64_w, i32_w]
     rfl
    refine pure_ (i := 3) (N := some 10) (v := ?_) (a' := ?_) #[true, false, false, true, false, false, false, false, false, false, false, false, false, false, false, false, false, false, false, false] rfl rfl (any_of HT_.out (by kernel_rfl)) (fun _ _ _ h => h) (Or.inl ⟨by rfl, ?_⟩) ?_ ?_
    rotate_left
    ·intro w'
     go_simp
     with_reducible rfl
    rotate_left
    ·simp only [Act.put, List.setIfInBounds_toArray, List.set_cons_zero, List.set_cons_succ, i64_w, i32_w]
     rfl
    refine pure_ (i := 9) (N := some 16) (v := ?_) (a' := ?_) #[true, false, false, true, false, false, false, false, false, true, false, false, false, false, false, false, false, false, false, false] rfl rfl (any_of HT_.out (by kernel_rfl)) (fun _ _ _ h => h) (Or.inl ⟨by rfl, ?_⟩) ?_ ?_
    rotate_left
    ·intro w'
     go_simp
     with_reducible rfl
    rotate_left
    ·simp only [Act.put, List.setIfInBounds_toArray, List.set_cons_zero, List.set_cons_succ, i64_w, i32_w]
     rfl
    refine pure_ (i := 14) (N := some 21) (v := ?_) (a' := ?_) #[true, false, false, true, false, false, false, false, false, true, false, false, false, false, true, false, false, false, false, false] rfl rfl (any_of HT_.out (by kernel_rfl)) (fun _ _ _ h => h) (Or.inl ⟨by rfl, ?_⟩) ?_ ?_
    rotate_left
    ·intro w'
     go_simp
     with_reducible rfl
    rotate_left
    ·simp only [Act.put, List.setIfInBounds_toArray, List.set_cons_zero, List.set_cons_succ, i64_w, i32_w]
     rfl
    refine take_ (i := 1) (N := some 8) (v := ?_) (a' := ?_) #[true, true, false, true, false, false, false, false, false, true, false, false, false, false, true, false, false, false, false, false] rfl rfl (take_ofW HT_.out HW_.out (by kernel_rfl)) (fun _ _ _ h => h) (Or.inl ⟨by rfl, ?_⟩) hHeld ?_ ?_
    rotate_left
    ·rintro w' ⟨s0, s1, s2, s3⟩
     go_simp
     with_reducible rfl
    rotate_left
    ·simp only [Act.put, List.setIfInBounds_toArray, List.set_cons_zero, List.set_cons_succ, i64_w, i32_w]
     rfl
    refine pure_ (i := 2) (N := some 9) (v := ?_) (a' := ?_) #[true, true, true, true, false, false, false, false, false, true, false, false, false, false, true, false, false, false, false, false] rfl rfl (any_of HT_.out (by kernel_rfl)) (fun _ _ _ h => h) (Or.inl ⟨by rfl, ?_⟩) ?_ ?_
    rotate_left
    ·intro w'
     go_simp
     with_reducible rfl
    rotate_left
    ·simp only [Act.put, List.setIfInBounds_toArray, List.set_cons_zero, List.set_cons_succ, i64_w, i32_w]
     rfl
    refine take_ (i := 4) (N := some 11) (v := ?_) (a' := ?_) #[true, true, true, true, true, false, false, false, false, true, false, false, false, false, true, false, false, false, false, false] rfl rfl (take_ofW HT_.out HW_.out (by kernel_rfl)) (fun _ _ _ h => h) (Or.inl ⟨by rfl, ?_⟩) hHeld ?_ ?_
    rotate_left
    ·rintro w' ⟨s0, s1, s2, s3⟩
     go_simp
     with_reducible rfl
    rotate_left
    ·simp only [Act.put, List.setIfInBounds_toArray, List.set_cons_zero, List.set_cons_succ, i64_w, i32_w]
     rfl
    refine pure_ (i := 5) (N := some 12) (v := ?_) (a' := ?_) #[true, true, true, true, true, true, false, false, false, true, false, false, false, false, true, false, false, false, false, false] rfl rfl (any_of HT_.out (by kernel_rfl)) (fun _ _ _ h => h) (Or.inl ⟨by rfl, ?_⟩) ?_ ?_
    rotate_left
    ·intro w'
     go_simp
     with_reducible rfl
    rotate_left
    ·simp only [Act.put, List.setIfInBounds_toArray, List.set_cons_zero, List.set_cons_succ, i64_w, i32_w]
     rfl
    refine pure_ (i := 6) (N := some 13) (v := ?_) (a' := ?_) #[true, true, true, true, true, true, true, false, false, true, false, false, false, false, true, false, false, false, false, false] rfl rfl (any_of HT_.out (by kernel_rfl)) (fun _ _ _ h => h) (Or.inl ⟨by rfl, ?_⟩) ?_ ?_
    rotate_left
    ·intro w'
     go_simp
     with_reducible rfl
    rotate_left
    ·simp only [Act.put, List.setIfInBounds_toArray, List.set_cons_zero, List.set_cons_succ, i64_w, i32_w]
     rfl
    refine take_ (i := 10) (N := some 17) (v := ?_) (a' := ?_) #[true, true, true, true, true, true, true, false, false, true, true, false, false, false, true, false, false, false, false, false] rfl rfl (take_ofW HT_.out HW_.out (by kernel_rfl)) (fun _ _ _ h => h) (Or.inl ⟨by rfl, ?_⟩) hHeld ?_ ?_
    rotate_left
    ·rintro w' ⟨s0, s1, s2, s3⟩
     go_simp
     with_reducible rfl
    rotate_left
    ·simp only [Act.put, List.setIfInBounds_toArray, List.set_cons_zero, List.set_cons_succ, i64_w, i32_w]
     rfl
    refine pure_ (i := 11) (N := some 18) (v := ?_) (a' := ?_) #[true, true, true, true, true, true, true, false, false, true, true, true, false, false, true, false, false, false, false, false] rfl rfl (any_of HT_.out (by kernel_rfl)) (fun _ _ _ h => h) (Or.inl ⟨by rfl, ?_⟩) ?_ ?_
    rotate_left
    ·intro w'
     go_simp
     with_reducible rfl
    rotate_left
    ·simp only [Act.put, List.setIfInBounds_toArray, List.set_cons_zero, List.set_cons_succ, i64_w, i32_w]
     rfl
    refine take_ (i := 15) (N := some 22) (v := ?_) (a' := ?_) #[true, true, true, true, true, true, true, false, false, true, true, true, false, false, true, true, false, false, false, false] rfl rfl (take_ofW HT_.out HW_.out (by kernel_rfl)) (fun _ _ _ h => h) (Or.inl ⟨by rfl, ?_⟩) hHeld ?_ ?_
    rotate_left
    ·rintro w' ⟨s0, s1, s2, s3⟩
     go_simp
     with_reducible rfl
    rotate_left
    ·simp only [Act.put, List.setIfInBounds_toArray, List.set_cons_zero, List.set_cons_succ, i64_w, i32_w]
     rfl
    refine join_ (σ := Value) 3 #[true, true, true, true, true, true, true, true, true, true, true, true, true, true, true, true, true, false, false, false] (fun s_ => [(14, s_), (15, .string (strOfNums y332)), (19, .string t335), (23, .string t336), (20, .string ((strOfNums y332) ++ t335))]) (fun s_ w' => (w'.cell? ⟨gb330, 0, none⟩ = some (.int .i64 a0_0) ∧ w'.cell? ⟨gb330, 1, none⟩ = some (.int .i64 a0_1) ∧ w'.cell? ⟨gb330, 2, none⟩ = some (.int .i64 a0_2) ∧ w'.cell? ⟨gb330, 3, none⟩ = some (.string a0_3)) ∧ (Kd.R (Kd.int .u8) 5 w' w.heap.size (fun _ => True) s_ y332) ∧ (w'.heap[gb330]? = some (.cells #[.int .i64 a0_0, .int .i64 a0_1, .int .i64 a0_2, .string a0_3] 32 (0, 0))) ∧ (Below w.heap.size w w')) ?_ ?_
    rotate_left
    ·intro hJ7_8_12_16
     refine join_ (σ := Value) 4 #[true, true, true, true, true, true, true, true, true, true, true, true, true, true, true, true, false, false, false, false] (fun s_ => [(14, s_), (15, .string (strOfNums y332)), (19, .string t335), (20, .string ((strOfNums y332) ++ t335))]) (fun s_ w' => (w'.cell? ⟨gb330, 0, none⟩ = some (.int .i64 a0_0) ∧ w'.cell? ⟨gb330, 1, none⟩ = some (.int .i64 a0_1) ∧ w'.cell? ⟨gb330, 2, none⟩ = some (.int .i64 a0_2) ∧ w'.cell? ⟨gb330, 3, none⟩ = some (.string a0_3)) ∧ (Kd.R (Kd.int .u8) 5 w' w.heap.size (fun _ => True) s_ y332) ∧ (w'.heap[gb330]? = some (.cells #[.int .i64 a0_0, .int .i64 a0_1, .int .i64 a0_2, .string a0_3] 32 (0, 0))) ∧ (Below w.heap.size w w')) ?_ ?_
     rotate_left
     ·intro hJ7_8_12
      refine join_ (σ := Value) 5 #[true, true, true, true, true, true, true, true, false, true, true, true, true, false, true, true, true, false, false, false] (fun s_ => [(14, s_), (19, .string t335), (23, .string t336)]) (fun s_ w' => (w'.cell? ⟨gb330, 0, none⟩ = some (.int .i64 a0_0) ∧ w'.cell? ⟨gb330, 1, none⟩ = some (.int .i64 a0_1) ∧ w'.cell? ⟨gb330, 2, none⟩ = some (.int .i64 a0_2) ∧ w'.cell? ⟨gb330, 3, none⟩ = some (.string a0_3)) ∧ (Kd.R (Kd.int .u8) 5 w' w.heap.size (fun _ => True) s_ y332) ∧ (w'.heap[gb330]? = some (.cells #[.int .i64 a0_0, .int .i64 a0_1, .int .i64 a0_2, .string a0_3] 32 (0, 0))) ∧ (Below w.heap.size w w')) ?_ ?_
      rotate_left
      ·intro hJ7_12_16
       refine join_ (σ := Value) 6 #[true, true, true, true, true, true, true, true, true, true, true, true, false, false, true, true, false, false, false, false] (fun s_ => [(14, s_), (15, .string (strOfNums y332))]) (fun s_ w' => (w'.cell? ⟨gb330, 0, none⟩ = some (.int .i64 a0_0) ∧ w'.cell? ⟨gb330, 1, none⟩ = some (.int .i64 a0_1) ∧ w'.cell? ⟨gb330, 2, none⟩ = some (.int .i64 a0_2) ∧ w'.cell? ⟨gb330, 3, none⟩ = some (.string a0_3)) ∧ (Kd.R (Kd.int .u8) 5 w' w.heap.size (fun _ => True) s_ y332) ∧ (w'.heap[gb330]? = some (.cells #[.int .i64 a0_0, .int .i64 a0_1, .int .i64 a0_2, .string a0_3] 32 (0, 0))) ∧ (Below w.heap.size w w')) ?_ ?_
       rotate_left
       ·intro hJ7_8
        refine join_ (σ := Value) 6 #[true, true, true, true, true, true, true, true, false, true, true, true, true, false, true, true, false, false, false, false] (fun s_ => [(14, s_), (19, .string t335)]) (fun s_ w' => (w'.cell? ⟨gb330, 0, none⟩ = some (.int .i64 a0_0) ∧ w'.cell? ⟨gb330, 1, none⟩ = some (.int .i64 a0_1) ∧ w'.cell? ⟨gb330, 2, none⟩ = some (.int .i64 a0_2) ∧ w'.cell? ⟨gb330, 3, none⟩ = some (.string a0_3)) ∧ (Kd.R (Kd.int .u8) 5 w' w.heap.size (fun _ => True) s_ y332) ∧ (w'.heap[gb330]? = some (.cells #[.int .i64 a0_0, .int .i64 a0_1, .int .i64 a0_2, .string a0_3] 32 (0, 0))) ∧ (Below w.heap.size w w')) ?_ ?_
        rotate_left
        ·intro hJ7_12
         refine join_ (σ := Unit) 6 #[true, true, true, true, true, true, true, false, false, true, true, true, true, false, true, true, true, false, false, false] (fun s_ => [(19, .string t335), (23, .string t336)]) (fun s_ w' => (w'.cell? ⟨gb330, 0, none⟩ = some (.int .i64 a0_0) ∧ w'.cell? ⟨gb330, 1, none⟩ = some (.int .i64 a0_1) ∧ w'.cell? ⟨gb330, 2, none⟩ = some (.int .i64 a0_2) ∧ w'.cell? ⟨gb330, 3, none⟩ = some (.string a0_3)) ∧ (w'.heap[gb330]? = some (.cells #[.int .i64 a0_0, .int .i64 a0_1, .int .i64 a0_2, .string a0_3] 32 (0, 0))) ∧ (Below w.heap.size w w')) ?_ ?_
         rotate_left
         ·intro hJ12_16
          refine join_ (σ := Value) 7 #[true, true, true, true, true, true, true, true, false, true, true, true, false, false, true, true, false, false, false, false] (fun s_ => [(14, s_)]) (fun s_ w' => (w'.cell? ⟨gb330, 0, none⟩ = some (.int .i64 a0_0) ∧ w'.cell? ⟨gb330, 1, none⟩ = some (.int .i64 a0_1) ∧ w'.cell? ⟨gb330, 2, none⟩ = some (.int .i64 a0_2) ∧ w'.cell? ⟨gb330, 3, none⟩ = some (.string a0_3)) ∧ (Kd.R (Kd.int .u8) 5 w' w.heap.size (fun _ => True) s_ y332) ∧ (w'.heap[gb330]? = some (.cells #[.int .i64 a0_0, .int .i64 a0_1, .int .i64 a0_2, .string a0_3] 32 (0, 0))) ∧ (Below w.heap.size w w')) ?_ ?_
          rotate_left
          ·intro hJ7
           refine join_ (σ := Unit) 7 #[true, true, true, true, true, true, true, false, false, true, true, true, true, false, true, true, false, false, false, false] (fun s_ => [(19, .string t335)]) (fun s_ w' => (w'.cell? ⟨gb330, 0, none⟩ = some (.int .i64 a0_0) ∧ w'.cell? ⟨gb330, 1, none⟩ = some (.int .i64 a0_1) ∧ w'.cell? ⟨gb330, 2, none⟩ = some (.int .i64 a0_2) ∧ w'.cell? ⟨gb330, 3, none⟩ = some (.string a0_3)) ∧ (w'.heap[gb330]? = some (.cells #[.int .i64 a0_0, .int .i64 a0_1, .int .i64 a0_2, .string a0_3] 32 (0, 0))) ∧ (Below w.heap.size w w')) ?_ ?_
           rotate_left
           ·intro hJ12
            refine two_ (i := 7) (j := 12) (Ni := some 14) (Nj := some 19) #[true, true, true, true, true, true, true, true, false, true, true, true, false, false, true, true, false, false, false, false] #[true, true, true, true, true, true, true, false, false, true, true, true, true, false, true, true, false, false, false, false] rfl rfl rfl rfl (two_of HT_.out (by kernel_rfl)) (by decide) (by decide) (fun K hK => ?_) (fun K hK => ?_)
            ·skip
             refine Kd.R_lit_step (Kd.int .u8) _ 5 ?hg (N := 14) ?hd (xs := ([(a0_0) % 256, (wrap64 (a0_1 + 128)) % 256] : List Int)) (inner := [.int .u8 ((a0_0) % 256), .int .u8 ((wrap64 (a0_1 + 128)) % 256)]) (ok := fun _ => True) (okp := fun _ => True) ?hr ?hp (fun _ hk => hk) trivial (Below.refl _ _) (Nat.le_refl _) (by simp) ?_; (case hd => rfl); (case hg => rfl); (case hr => first | (go_simp; done) | (go_simp; rfl)); (case hp => exact (Reps.one (show Kd.M (Kd.int .u8) _ _ _ ((a0_0) % 256) [.int .u8 ((a0_0) % 256)] from rfl) (Reps.one (show Kd.M (Kd.int .u8) _ _ _ ((wrap64 (a0_1 + 128)) % 256) [.int .u8 ((wrap64 (a0_1 + 128)) % 256)] from rfl) (Reps.none _ _))))
             intro v333 w12 ho13 hb hg_ hnew_
             clear hg_ hnew_
             (first | rw [← Ny332.out] at ho13 | (simp only [Int.reduceToNat] at ho13; rw [← Ny332.out] at ho13))
             have HO334 := Aside0.mk (Kd.R_lower ho13 (below_size (by repeat (first | (with_reducible first | exact HB.out | apply below_alloc | apply pw_below_drewN | apply below_drew1 | refine below_set ?_ GE330.out) | exact HB.out))))
             replace BK330 := Aside0.mk (blk_below (bS BK330.out) hb)
             replace HB := Aside0.mk (below_step (by repeat (first | (with_reducible first | exact HB.out | apply below_alloc | apply pw_below_drewN | apply below_drew1 | refine below_set ?_ GE330.out) | exact HB.out)) hb)
             clear hb ho13
             refine hK.out _ _ ⟨(blk_cell BK330.out 0).trans rfl, (blk_cell BK330.out 1).trans rfl, (blk_cell BK330.out 2).trans rfl, (blk_cell BK330.out 3).trans rfl⟩ (fun hHeld => ?_)
             clear hK K
             refine norm_ (a' := ?_) ?_ ?_
             rotate_left
             ·show Act.put _ (some 14) _ = _
              simp only [Act.put, List.setIfInBounds_toArray, List.set_cons_zero, List.set_cons_succ, i64_w, i32_w]
              rfl
             exact norm_ (by first | (simp only [putAll, Act.put, List.setIfInBounds_toArray, List.set_cons_zero, List.set_cons_succ]; done) | (simp only [putAll, Act.put, List.setIfInBounds_toArray, List.set_cons_zero, List.set_cons_succ]; rfl)) (hJ7 (v333) _ ⟨hHeld, (rS HO334.out), (bS BK330.out), (by repeat (first | (with_reducible first | exact HB.out | apply below_alloc | apply pw_below_drewN | apply below_drew1 | refine below_set ?_ GE330.out) | exact HB.out))⟩)
            ·skip
             refine goes_ Try.func78 (by kernel_rfl) rfl #[.int .u64 (IntKind.u64.wrap (a0_2))] (by rfl) rfl rfl (by (try simp only [List.map_toArray, List.map_cons, List.map_nil]); first | done | rfl | (simp only [List.length_drop, List.length_take]; rfl)) ?_
             with_reducible refine (rollcallref01_Put.calls k (IntKind.u64.wrap (a0_2)) t335 _ A4.out).mono ?_
             rintro e w12 ⟨rfl, hb⟩
             refine ⟨_, rfl, ?_⟩
             replace BK330 := Aside0.mk (blk_below (bS BK330.out) hb)
             replace HB := Aside0.mk (below_step (by repeat (first | (with_reducible first | exact HB.out | apply below_alloc | apply pw_below_drewN | apply below_drew1 | refine below_set ?_ GE330.out) | exact HB.out)) hb)
             (try clear hb)
             (try clear hb2)
             (try clear hk)
             (try clear hi)
             refine hK.out _ _ ⟨(blk_cell BK330.out 0).trans rfl, (blk_cell BK330.out 1).trans rfl, (blk_cell BK330.out 2).trans rfl, (blk_cell BK330.out 3).trans rfl⟩ (fun hHeld => ?_)
             clear hK K
             refine norm_ (a' := ?_) ?_ ?_
             rotate_left
             ·show Act.put _ (some 19) _ = _
              simp only [Act.put, List.setIfInBounds_toArray, List.set_cons_zero, List.set_cons_succ, i64_w, i32_w]
              rfl
             exact norm_ (by first | (simp only [putAll, Act.put, List.setIfInBounds_toArray, List.set_cons_zero, List.set_cons_succ]; done) | (simp only [putAll, Act.put, List.setIfInBounds_toArray, List.set_cons_zero, List.set_cons_succ]; rfl)) (hJ12 () _ ⟨hHeld, (bS BK330.out), (by repeat (first | (with_reducible first | exact HB.out | apply below_alloc | apply pw_below_drewN | apply below_drew1 | refine below_set ?_ GE330.out) | exact HB.out))⟩)
           ·skip
            rintro _ w13 ⟨hS_, h0_, h1_⟩
            replace BK330 : Aside0 (w13.heap[gb330]? = some (.cells #[.int .i64 a0_0, .int .i64 a0_1, .int .i64 a0_2, .string a0_3] 32 (0, 0))) := ⟨h0_⟩
            replace HB : Aside0 (Below w.heap.size w w13) := ⟨h1_⟩
            clear h0_ h1_
            have hHeld : w13.cell? ⟨gb330, 0, none⟩ = some (.int .i64 a0_0) ∧ w13.cell? ⟨gb330, 1, none⟩ = some (.int .i64 a0_1) ∧ w13.cell? ⟨gb330, 2, none⟩ = some (.int .i64 a0_2) ∧ w13.cell? ⟨gb330, 3, none⟩ = some (.string a0_3) := hS_
            refine norm_ (a' := ?_) ?_ ?_
            rotate_left
            ·simp only [putAll, Act.put, List.setIfInBounds_toArray, List.set_cons_zero, List.set_cons_succ]
             rfl
            refine two_ (i := 7) (j := 16) (Ni := some 14) (Nj := some 23) #[true, true, true, true, true, true, true, true, false, true, true, true, true, false, true, true, false, false, false, false] #[true, true, true, true, true, true, true, false, false, true, true, true, true, false, true, true, true, false, false, false] rfl rfl rfl rfl (two_of HT_.out (by kernel_rfl)) (by decide) (by decide) (fun K hK => ?_) (fun K hK => ?_)
            ·skip
             refine Kd.R_lit_step (Kd.int .u8) _ 5 ?hg (N := 14) ?hd (xs := ([(a0_0) % 256, (wrap64 (a0_1 + 128)) % 256] : List Int)) (inner := [.int .u8 ((a0_0) % 256), .int .u8 ((wrap64 (a0_1 + 128)) % 256)]) (ok := fun _ => True) (okp := fun _ => True) ?hr ?hp (fun _ hk => hk) trivial (Below.refl _ _) (Nat.le_refl _) (by simp) ?_; (case hd => rfl); (case hg => rfl); (case hr => first | (go_simp; done) | (go_simp; rfl)); (case hp => exact (Reps.one (show Kd.M (Kd.int .u8) _ _ _ ((a0_0) % 256) [.int .u8 ((a0_0) % 256)] from rfl) (Reps.one (show Kd.M (Kd.int .u8) _ _ _ ((wrap64 (a0_1 + 128)) % 256) [.int .u8 ((wrap64 (a0_1 + 128)) % 256)] from rfl) (Reps.none _ _))))
             intro v333 w14 ho15 hb hg_ hnew_
             clear hg_ hnew_
             (first | rw [← Ny332.out] at ho15 | (simp only [Int.reduceToNat] at ho15; rw [← Ny332.out] at ho15))
             have HO334 := Aside0.mk (Kd.R_lower ho15 (below_size (by repeat (first | (with_reducible first | exact HB.out | apply below_alloc | apply pw_below_drewN | apply below_drew1 | refine below_set ?_ GE330.out) | exact HB.out))))
             replace BK330 := Aside0.mk (blk_below (bS BK330.out) hb)
             replace HB := Aside0.mk (below_step (by repeat (first | (with_reducible first | exact HB.out | apply below_alloc | apply pw_below_drewN | apply below_drew1 | refine below_set ?_ GE330.out) | exact HB.out)) hb)
             clear hb ho15
             refine hK.out _ _ ⟨(blk_cell BK330.out 0).trans rfl, (blk_cell BK330.out 1).trans rfl, (blk_cell BK330.out 2).trans rfl, (blk_cell BK330.out 3).trans rfl⟩ (fun hHeld => ?_)
             clear hK K
             refine norm_ (a' := ?_) ?_ ?_
             rotate_left
             ·show Act.put _ (some 14) _ = _
              simp only [Act.put, List.setIfInBounds_toArray, List.set_cons_zero, List.set_cons_succ, i64_w, i32_w]
              rfl
             exact norm_ (by first | (simp only [putAll, Act.put, List.setIfInBounds_toArray, List.set_cons_zero, List.set_cons_succ]; done) | (simp only [putAll, Act.put, List.setIfInBounds_toArray, List.set_cons_zero, List.set_cons_succ]; rfl)) (hJ7_12 (v333) _ ⟨hHeld, (rS HO334.out), (bS BK330.out), (by repeat (first | (with_reducible first | exact HB.out | apply below_alloc | apply pw_below_drewN | apply below_drew1 | refine below_set ?_ GE330.out) | exact HB.out))⟩)
            ·skip
             refine goes_ Try.func90 (by kernel_rfl) rfl #[.string a0_3] (by rfl) rfl rfl (by (try simp only [List.map_toArray, List.map_cons, List.map_nil]); first | done | rfl | (simp only [List.length_drop, List.length_take]; rfl)) ?_
             with_reducible refine (rollcallref01_Text.calls k a0_3 t336 _ A6.out).mono ?_
             rintro e w14 ⟨rfl, hb⟩
             refine ⟨_, rfl, ?_⟩
             replace BK330 := Aside0.mk (blk_below (bS BK330.out) hb)
             replace HB := Aside0.mk (below_step (by repeat (first | (with_reducible first | exact HB.out | apply below_alloc | apply pw_below_drewN | apply below_drew1 | refine below_set ?_ GE330.out) | exact HB.out)) hb)
             (try clear hb)
             (try clear hb2)
             (try clear hk)
             (try clear hi)
             refine hK.out _ _ ⟨(blk_cell BK330.out 0).trans rfl, (blk_cell BK330.out 1).trans rfl, (blk_cell BK330.out 2).trans rfl, (blk_cell BK330.out 3).trans rfl⟩ (fun hHeld => ?_)
             clear hK K
             refine norm_ (a' := ?_) ?_ ?_
             rotate_left
             ·show Act.put _ (some 23) _ = _
              simp only [Act.put, List.setIfInBounds_toArray, List.set_cons_zero, List.set_cons_succ, i64_w, i32_w]
              rfl
             exact norm_ (by first | (simp only [putAll, Act.put, List.setIfInBounds_toArray, List.set_cons_zero, List.set_cons_succ]; done) | (simp only [putAll, Act.put, List.setIfInBounds_toArray, List.set_cons_zero, List.set_cons_succ]; rfl)) (hJ12_16 () _ ⟨hHeld, (bS BK330.out), (by repeat (first | (with_reducible first | exact HB.out | apply below_alloc | apply pw_below_drewN | apply below_drew1 | refine below_set ?_ GE330.out) | exact HB.out))⟩)
          ·skip
           rintro v333 w14 ⟨hS_, h0_, h1_, h2_⟩
           have HO334 : Aside0 (Kd.R (Kd.int .u8) 5 w14 w.heap.size (fun _ => True) v333 y332) := ⟨h0_⟩
           replace BK330 : Aside0 (w14.heap[gb330]? = some (.cells #[.int .i64 a0_0, .int .i64 a0_1, .int .i64 a0_2, .string a0_3] 32 (0, 0))) := ⟨h1_⟩
           replace HB : Aside0 (Below w.heap.size w w14) := ⟨h2_⟩
           clear h0_ h1_ h2_
           have hHeld : w14.cell? ⟨gb330, 0, none⟩ = some (.int .i64 a0_0) ∧ w14.cell? ⟨gb330, 1, none⟩ = some (.int .i64 a0_1) ∧ w14.cell? ⟨gb330, 2, none⟩ = some (.int .i64 a0_2) ∧ w14.cell? ⟨gb330, 3, none⟩ = some (.string a0_3) := hS_
           refine norm_ (a' := ?_) ?_ ?_
           rotate_left
           ·simp only [putAll, Act.put, List.setIfInBounds_toArray, List.set_cons_zero, List.set_cons_succ]
            rfl
           refine two_ (i := 8) (j := 12) (Ni := some 15) (Nj := some 19) #[true, true, true, true, true, true, true, true, true, true, true, true, false, false, true, true, false, false, false, false] #[true, true, true, true, true, true, true, true, false, true, true, true, true, false, true, true, false, false, false, false] rfl rfl rfl rfl (two_of HT_.out (by kernel_rfl)) (by decide) (by decide) (fun K hK => ?_) (fun K hK => ?_)
           ·skip
            have hcv15 := own_string (P := Try.prog) Try.underlying119 Try.underlying5 Try.underlying9 (Kd.own_of_R HO334.out)
            refine value_ (w1 := ?_) (v := ?_) (by rfl) rfl ?_ ?_
            rotate_left 2
            ·go_simp
             constructor
             ·rfl
             ·rfl
            clear hcv15
            refine hK.out _ _ ⟨(blk_cell BK330.out 0).trans rfl, (blk_cell BK330.out 1).trans rfl, (blk_cell BK330.out 2).trans rfl, (blk_cell BK330.out 3).trans rfl⟩ (fun hHeld => ?_)
            clear hK K
            refine norm_ (a' := ?_) ?_ ?_
            rotate_left
            ·show Act.put _ (some 15) _ = _
             simp only [Act.put, List.setIfInBounds_toArray, List.set_cons_zero, List.set_cons_succ, i64_w, i32_w]
             rfl
            exact norm_ (by first | (simp only [putAll, Act.put, List.setIfInBounds_toArray, List.set_cons_zero, List.set_cons_succ]; done) | (simp only [putAll, Act.put, List.setIfInBounds_toArray, List.set_cons_zero, List.set_cons_succ]; rfl)) (hJ7_8 (v333) _ ⟨hHeld, (rS HO334.out), (bS BK330.out), (by repeat (first | (with_reducible first | exact HB.out | apply below_alloc | apply pw_below_drewN | apply below_drew1 | refine below_set ?_ GE330.out) | exact HB.out))⟩)
           ·skip
            refine goes_ Try.func78 (by kernel_rfl) rfl #[.int .u64 (IntKind.u64.wrap (a0_2))] (by rfl) rfl rfl (by (try simp only [List.map_toArray, List.map_cons, List.map_nil]); first | done | rfl | (simp only [List.length_drop, List.length_take]; rfl)) ?_
            with_reducible refine (rollcallref01_Put.calls k (IntKind.u64.wrap (a0_2)) t335 _ A4.out).mono ?_
            rintro e w15 ⟨rfl, hb⟩
            refine ⟨_, rfl, ?_⟩
            replace HO334 := Aside0.mk (Kd.R_below (rS HO334.out) hb)
            replace BK330 := Aside0.mk (blk_below (bS BK330.out) hb)
            replace HB := Aside0.mk (below_step (by repeat (first | (with_reducible first | exact HB.out | apply below_alloc | apply pw_below_drewN | apply below_drew1 | refine below_set ?_ GE330.out) | exact HB.out)) hb)
            (try clear hb)
            (try clear hb2)
            (try clear hk)
            (try clear hi)
            refine hK.out _ _ ⟨(blk_cell BK330.out 0).trans rfl, (blk_cell BK330.out 1).trans rfl, (blk_cell BK330.out 2).trans rfl, (blk_cell BK330.out 3).trans rfl⟩ (fun hHeld => ?_)
            clear hK K
            refine norm_ (a' := ?_) ?_ ?_
            rotate_left
            ·show Act.put _ (some 19) _ = _
             simp only [Act.put, List.setIfInBounds_toArray, List.set_cons_zero, List.set_cons_succ, i64_w, i32_w]
             rfl
            exact norm_ (by first | (simp only [putAll, Act.put, List.setIfInBounds_toArray, List.set_cons_zero, List.set_cons_succ]; done) | (simp only [putAll, Act.put, List.setIfInBounds_toArray, List.set_cons_zero, List.set_cons_succ]; rfl)) (hJ7_12 (v333) _ ⟨hHeld, (rS HO334.out), (bS BK330.out), (by repeat (first | (with_reducible first | exact HB.out | apply below_alloc | apply pw_below_drewN | apply below_drew1 | refine below_set ?_ GE330.out) | exact HB.out))⟩)
         ·skip
          rintro _ w14 ⟨hS_, h0_, h1_⟩
          replace BK330 : Aside0 (w14.heap[gb330]? = some (.cells #[.int .i64 a0_0, .int .i64 a0_1, .int .i64 a0_2, .string a0_3] 32 (0, 0))) := ⟨h0_⟩
          replace HB : Aside0 (Below w.heap.size w w14) := ⟨h1_⟩
          clear h0_ h1_
          have hHeld : w14.cell? ⟨gb330, 0, none⟩ = some (.int .i64 a0_0) ∧ w14.cell? ⟨gb330, 1, none⟩ = some (.int .i64 a0_1) ∧ w14.cell? ⟨gb330, 2, none⟩ = some (.int .i64 a0_2) ∧ w14.cell? ⟨gb330, 3, none⟩ = some (.string a0_3) := hS_
          refine norm_ (a' := ?_) ?_ ?_
          rotate_left
          ·simp only [putAll, Act.put, List.setIfInBounds_toArray, List.set_cons_zero, List.set_cons_succ]
           rfl
          refine one_ (i := 7) (N := some 14) #[true, true, true, true, true, true, true, true, false, true, true, true, true, false, true, true, true, false, false, false] rfl rfl (one_of HT_.out (by kernel_rfl)) (by decide) (fun K hK => ?_)
          refine Kd.R_lit_step (Kd.int .u8) _ 5 ?hg (N := 14) ?hd (xs := ([(a0_0) % 256, (wrap64 (a0_1 + 128)) % 256] : List Int)) (inner := [.int .u8 ((a0_0) % 256), .int .u8 ((wrap64 (a0_1 + 128)) % 256)]) (ok := fun _ => True) (okp := fun _ => True) ?hr ?hp (fun _ hk => hk) trivial (Below.refl _ _) (Nat.le_refl _) (by simp) ?_; (case hd => rfl); (case hg => rfl); (case hr => first | (go_simp; done) | (go_simp; rfl)); (case hp => exact (Reps.one (show Kd.M (Kd.int .u8) _ _ _ ((a0_0) % 256) [.int .u8 ((a0_0) % 256)] from rfl) (Reps.one (show Kd.M (Kd.int .u8) _ _ _ ((wrap64 (a0_1 + 128)) % 256) [.int .u8 ((wrap64 (a0_1 + 128)) % 256)] from rfl) (Reps.none _ _))))
          intro v333 w15 ho16 hb hg_ hnew_
          clear hg_ hnew_
          (first | rw [← Ny332.out] at ho16 | (simp only [Int.reduceToNat] at ho16; rw [← Ny332.out] at ho16))
          have HO334 := Aside0.mk (Kd.R_lower ho16 (below_size (by repeat (first | (with_reducible first | exact HB.out | apply below_alloc | apply pw_below_drewN | apply below_drew1 | refine below_set ?_ GE330.out) | exact HB.out))))
          replace BK330 := Aside0.mk (blk_below (bS BK330.out) hb)
          replace HB := Aside0.mk (below_step (by repeat (first | (with_reducible first | exact HB.out | apply below_alloc | apply pw_below_drewN | apply below_drew1 | refine below_set ?_ GE330.out) | exact HB.out)) hb)
          clear hb ho16
          refine hK.out _ _ ⟨(blk_cell BK330.out 0).trans rfl, (blk_cell BK330.out 1).trans rfl, (blk_cell BK330.out 2).trans rfl, (blk_cell BK330.out 3).trans rfl⟩ (fun hHeld => ?_)
          clear hK K
          refine norm_ (a' := ?_) ?_ ?_
          rotate_left
          ·show Act.put _ (some 14) _ = _
           simp only [Act.put, List.setIfInBounds_toArray, List.set_cons_zero, List.set_cons_succ, i64_w, i32_w]
           rfl
          exact norm_ (by first | (simp only [putAll, Act.put, List.setIfInBounds_toArray, List.set_cons_zero, List.set_cons_succ]; done) | (simp only [putAll, Act.put, List.setIfInBounds_toArray, List.set_cons_zero, List.set_cons_succ]; rfl)) (hJ7_12_16 (v333) _ ⟨hHeld, (rS HO334.out), (bS BK330.out), (by repeat (first | (with_reducible first | exact HB.out | apply below_alloc | apply pw_below_drewN | apply below_drew1 | refine below_set ?_ GE330.out) | exact HB.out))⟩)
        ·skip
         rintro v333 w15 ⟨hS_, h0_, h1_, h2_⟩
         have HO334 : Aside0 (Kd.R (Kd.int .u8) 5 w15 w.heap.size (fun _ => True) v333 y332) := ⟨h0_⟩
         replace BK330 : Aside0 (w15.heap[gb330]? = some (.cells #[.int .i64 a0_0, .int .i64 a0_1, .int .i64 a0_2, .string a0_3] 32 (0, 0))) := ⟨h1_⟩
         replace HB : Aside0 (Below w.heap.size w w15) := ⟨h2_⟩
         clear h0_ h1_ h2_
         have hHeld : w15.cell? ⟨gb330, 0, none⟩ = some (.int .i64 a0_0) ∧ w15.cell? ⟨gb330, 1, none⟩ = some (.int .i64 a0_1) ∧ w15.cell? ⟨gb330, 2, none⟩ = some (.int .i64 a0_2) ∧ w15.cell? ⟨gb330, 3, none⟩ = some (.string a0_3) := hS_
         refine norm_ (a' := ?_) ?_ ?_
         rotate_left
         ·simp only [putAll, Act.put, List.setIfInBounds_toArray, List.set_cons_zero, List.set_cons_succ]
          rfl
         refine two_ (i := 8) (j := 16) (Ni := some 15) (Nj := some 23) #[true, true, true, true, true, true, true, true, true, true, true, true, true, false, true, true, false, false, false, false] #[true, true, true, true, true, true, true, true, false, true, true, true, true, false, true, true, true, false, false, false] rfl rfl rfl rfl (two_of HT_.out (by kernel_rfl)) (by decide) (by decide) (fun K hK => ?_) (fun K hK => ?_)
         ·skip
          have hcv16 := own_string (P := Try.prog) Try.underlying119 Try.underlying5 Try.underlying9 (Kd.own_of_R HO334.out)
          refine value_ (w1 := ?_) (v := ?_) (by rfl) rfl ?_ ?_
          rotate_left 2
          ·go_simp
           constructor
           ·rfl
           ·rfl
          clear hcv16
          refine hK.out _ _ ⟨(blk_cell BK330.out 0).trans rfl, (blk_cell BK330.out 1).trans rfl, (blk_cell BK330.out 2).trans rfl, (blk_cell BK330.out 3).trans rfl⟩ (fun hHeld => ?_)
          clear hK K
          refine norm_ (a' := ?_) ?_ ?_
          rotate_left
          ·show Act.put _ (some 15) _ = _
           simp only [Act.put, List.setIfInBounds_toArray, List.set_cons_zero, List.set_cons_succ, i64_w, i32_w]
           rfl
          refine pure_ (i := 13) (N := some 20) (v := ?_) (a' := ?_) #[true, true, true, true, true, true, true, true, true, true, true, true, true, true, true, true, false, false, false, false] rfl rfl (any_of HT_.out (by kernel_rfl)) (fun _ _ _ h => h) (Or.inl ⟨by rfl, ?_⟩) ?_ ?_
          rotate_left
          ·intro w'
           go_simp
           with_reducible rfl
          rotate_left
          ·simp only [Act.put, List.setIfInBounds_toArray, List.set_cons_zero, List.set_cons_succ, i64_w, i32_w]
           rfl
          exact norm_ (by first | (simp only [putAll, Act.put, List.setIfInBounds_toArray, List.set_cons_zero, List.set_cons_succ]; done) | (simp only [putAll, Act.put, List.setIfInBounds_toArray, List.set_cons_zero, List.set_cons_succ]; rfl)) (hJ7_8_12 (v333) _ ⟨hHeld, (rS HO334.out), (bS BK330.out), (by repeat (first | (with_reducible first | exact HB.out | apply below_alloc | apply pw_below_drewN | apply below_drew1 | refine below_set ?_ GE330.out) | exact HB.out))⟩)
         ·skip
          refine goes_ Try.func90 (by kernel_rfl) rfl #[.string a0_3] (by rfl) rfl rfl (by (try simp only [List.map_toArray, List.map_cons, List.map_nil]); first | done | rfl | (simp only [List.length_drop, List.length_take]; rfl)) ?_
          with_reducible refine (rollcallref01_Text.calls k a0_3 t336 _ A6.out).mono ?_
          rintro e w16 ⟨rfl, hb⟩
          refine ⟨_, rfl, ?_⟩
          replace HO334 := Aside0.mk (Kd.R_below (rS HO334.out) hb)
          replace BK330 := Aside0.mk (blk_below (bS BK330.out) hb)
          replace HB := Aside0.mk (below_step (by repeat (first | (with_reducible first | exact HB.out | apply below_alloc | apply pw_below_drewN | apply below_drew1 | refine below_set ?_ GE330.out) | exact HB.out)) hb)
          (try clear hb)
          (try clear hb2)
          (try clear hk)
          (try clear hi)
          refine hK.out _ _ ⟨(blk_cell BK330.out 0).trans rfl, (blk_cell BK330.out 1).trans rfl, (blk_cell BK330.out 2).trans rfl, (blk_cell BK330.out 3).trans rfl⟩ (fun hHeld => ?_)
          clear hK K
          refine norm_ (a' := ?_) ?_ ?_
          rotate_left
          ·show Act.put _ (some 23) _ = _
           simp only [Act.put, List.setIfInBounds_toArray, List.set_cons_zero, List.set_cons_succ, i64_w, i32_w]
           rfl
          exact norm_ (by first | (simp only [putAll, Act.put, List.setIfInBounds_toArray, List.set_cons_zero, List.set_cons_succ]; done) | (simp only [putAll, Act.put, List.setIfInBounds_toArray, List.set_cons_zero, List.set_cons_succ]; rfl)) (hJ7_12_16 (v333) _ ⟨hHeld, (rS HO334.out), (bS BK330.out), (by repeat (first | (with_reducible first | exact HB.out | apply below_alloc | apply pw_below_drewN | apply below_drew1 | refine below_set ?_ GE330.out) | exact HB.out))⟩)
       ·skip
        rintro v333 w15 ⟨hS_, h0_, h1_, h2_⟩
        have HO334 : Aside0 (Kd.R (Kd.int .u8) 5 w15 w.heap.size (fun _ => True) v333 y332) := ⟨h0_⟩
        replace BK330 : Aside0 (w15.heap[gb330]? = some (.cells #[.int .i64 a0_0, .int .i64 a0_1, .int .i64 a0_2, .string a0_3] 32 (0, 0))) := ⟨h1_⟩
        replace HB : Aside0 (Below w.heap.size w w15) := ⟨h2_⟩
        clear h0_ h1_ h2_
        have hHeld : w15.cell? ⟨gb330, 0, none⟩ = some (.int .i64 a0_0) ∧ w15.cell? ⟨gb330, 1, none⟩ = some (.int .i64 a0_1) ∧ w15.cell? ⟨gb330, 2, none⟩ = some (.int .i64 a0_2) ∧ w15.cell? ⟨gb330, 3, none⟩ = some (.string a0_3) := hS_
        refine norm_ (a' := ?_) ?_ ?_
        rotate_left
        ·simp only [putAll, Act.put, List.setIfInBounds_toArray, List.set_cons_zero, List.set_cons_succ]
         rfl
        refine one_ (i := 12) (N := some 19) #[true, true, true, true, true, true, true, true, true, true, true, true, true, false, true, true, false, false, false, false] rfl rfl (one_of HT_.out (by kernel_rfl)) (by decide) (fun K hK => ?_)
        refine goes_ Try.func78 (by kernel_rfl) rfl #[.int .u64 (IntKind.u64.wrap (a0_2))] (by rfl) rfl rfl (by (try simp only [List.map_toArray, List.map_cons, List.map_nil]); first | done | rfl | (simp only [List.length_drop, List.length_take]; rfl)) ?_
        with_reducible refine (rollcallref01_Put.calls k (IntKind.u64.wrap (a0_2)) t335 _ A4.out).mono ?_
        rintro e w16 ⟨rfl, hb⟩
        refine ⟨_, rfl, ?_⟩
        replace HO334 := Aside0.mk (Kd.R_below (rS HO334.out) hb)
        replace BK330 := Aside0.mk (blk_below (bS BK330.out) hb)
        replace HB := Aside0.mk (below_step (by repeat (first | (with_reducible first | exact HB.out | apply below_alloc | apply pw_below_drewN | apply below_drew1 | refine below_set ?_ GE330.out) | exact HB.out)) hb)
        (try clear hb)
        (try clear hb2)
        (try clear hk)
        (try clear hi)
        refine hK.out _ _ ⟨(blk_cell BK330.out 0).trans rfl, (blk_cell BK330.out 1).trans rfl, (blk_cell BK330.out 2).trans rfl, (blk_cell BK330.out 3).trans rfl⟩ (fun hHeld => ?_)
        clear hK K
        refine norm_ (a' := ?_) ?_ ?_
        rotate_left
        ·show Act.put _ (some 19) _ = _
         simp only [Act.put, List.setIfInBounds_toArray, List.set_cons_zero, List.set_cons_succ, i64_w, i32_w]
         rfl
        refine pure_ (i := 13) (N := some 20) (v := ?_) (a' := ?_) #[true, true, true, true, true, true, true, true, true, true, true, true, true, true, true, true, false, false, false, false] rfl rfl (any_of HT_.out (by kernel_rfl)) (fun _ _ _ h => h) (Or.inl ⟨by rfl, ?_⟩) ?_ ?_
        rotate_left
        ·intro w'
         go_simp
         with_reducible rfl
        rotate_left
        ·simp only [Act.put, List.setIfInBounds_toArray, List.set_cons_zero, List.set_cons_succ, i64_w, i32_w]
         rfl
        exact norm_ (by first | (simp only [putAll, Act.put, List.setIfInBounds_toArray, List.set_cons_zero, List.set_cons_succ]; done) | (simp only [putAll, Act.put, List.setIfInBounds_toArray, List.set_cons_zero, List.set_cons_succ]; rfl)) (hJ7_8_12 (v333) _ ⟨hHeld, (rS HO334.out), (bS BK330.out), (by repeat (first | (with_reducible first | exact HB.out | apply below_alloc | apply pw_below_drewN | apply below_drew1 | refine below_set ?_ GE330.out) | exact HB.out))⟩)
      ·skip
       rintro v333 w16 ⟨hS_, h0_, h1_, h2_⟩
       have HO334 : Aside0 (Kd.R (Kd.int .u8) 5 w16 w.heap.size (fun _ => True) v333 y332) := ⟨h0_⟩
       replace BK330 : Aside0 (w16.heap[gb330]? = some (.cells #[.int .i64 a0_0, .int .i64 a0_1, .int .i64 a0_2, .string a0_3] 32 (0, 0))) := ⟨h1_⟩
       replace HB : Aside0 (Below w.heap.size w w16) := ⟨h2_⟩
       clear h0_ h1_ h2_
       have hHeld : w16.cell? ⟨gb330, 0, none⟩ = some (.int .i64 a0_0) ∧ w16.cell? ⟨gb330, 1, none⟩ = some (.int .i64 a0_1) ∧ w16.cell? ⟨gb330, 2, none⟩ = some (.int .i64 a0_2) ∧ w16.cell? ⟨gb330, 3, none⟩ = some (.string a0_3) := hS_
       refine norm_ (a' := ?_) ?_ ?_
       rotate_left
       ·simp only [putAll, Act.put, List.setIfInBounds_toArray, List.set_cons_zero, List.set_cons_succ]
        rfl
       refine one_ (i := 8) (N := some 15) #[true, true, true, true, true, true, true, true, true, true, true, true, true, false, true, true, true, false, false, false] rfl rfl (one_of HT_.out (by kernel_rfl)) (by decide) (fun K hK => ?_)
       have hcv17 := own_string (P := Try.prog) Try.underlying119 Try.underlying5 Try.underlying9 (Kd.own_of_R HO334.out)
       refine value_ (w1 := ?_) (v := ?_) (by rfl) rfl ?_ ?_
       rotate_left 2
       ·go_simp
        constructor
        ·rfl
        ·rfl
       clear hcv17
       refine hK.out _ _ ⟨(blk_cell BK330.out 0).trans rfl, (blk_cell BK330.out 1).trans rfl, (blk_cell BK330.out 2).trans rfl, (blk_cell BK330.out 3).trans rfl⟩ (fun hHeld => ?_)
       clear hK K
       refine norm_ (a' := ?_) ?_ ?_
       rotate_left
       ·show Act.put _ (some 15) _ = _
        simp only [Act.put, List.setIfInBounds_toArray, List.set_cons_zero, List.set_cons_succ, i64_w, i32_w]
        rfl
       refine pure_ (i := 13) (N := some 20) (v := ?_) (a' := ?_) #[true, true, true, true, true, true, true, true, true, true, true, true, true, true, true, true, true, false, false, false] rfl rfl (any_of HT_.out (by kernel_rfl)) (fun _ _ _ h => h) (Or.inl ⟨by rfl, ?_⟩) ?_ ?_
       rotate_left
       ·intro w'
        go_simp
        with_reducible rfl
       rotate_left
       ·simp only [Act.put, List.setIfInBounds_toArray, List.set_cons_zero, List.set_cons_succ, i64_w, i32_w]
        rfl
       exact norm_ (by first | (simp only [putAll, Act.put, List.setIfInBounds_toArray, List.set_cons_zero, List.set_cons_succ]; done) | (simp only [putAll, Act.put, List.setIfInBounds_toArray, List.set_cons_zero, List.set_cons_succ]; rfl)) (hJ7_8_12_16 (v333) _ ⟨hHeld, (rS HO334.out), (bS BK330.out), (by repeat (first | (with_reducible first | exact HB.out | apply below_alloc | apply pw_below_drewN | apply below_drew1 | refine below_set ?_ GE330.out) | exact HB.out))⟩)
     ·skip
      rintro v333 w16 ⟨hS_, h0_, h1_, h2_⟩
      have HO334 : Aside0 (Kd.R (Kd.int .u8) 5 w16 w.heap.size (fun _ => True) v333 y332) := ⟨h0_⟩
      replace BK330 : Aside0 (w16.heap[gb330]? = some (.cells #[.int .i64 a0_0, .int .i64 a0_1, .int .i64 a0_2, .string a0_3] 32 (0, 0))) := ⟨h1_⟩
      replace HB : Aside0 (Below w.heap.size w w16) := ⟨h2_⟩
      clear h0_ h1_ h2_
      have hHeld : w16.cell? ⟨gb330, 0, none⟩ = some (.int .i64 a0_0) ∧ w16.cell? ⟨gb330, 1, none⟩ = some (.int .i64 a0_1) ∧ w16.cell? ⟨gb330, 2, none⟩ = some (.int .i64 a0_2) ∧ w16.cell? ⟨gb330, 3, none⟩ = some (.string a0_3) := hS_
      refine norm_ (a' := ?_) ?_ ?_
      rotate_left
      ·simp only [putAll, Act.put, List.setIfInBounds_toArray, List.set_cons_zero, List.set_cons_succ]
       rfl
      refine one_ (i := 16) (N := some 23) #[true, true, true, true, true, true, true, true, true, true, true, true, true, true, true, true, true, false, false, false] rfl rfl (one_of HT_.out (by kernel_rfl)) (by decide) (fun K hK => ?_)
      refine goes_ Try.func90 (by kernel_rfl) rfl #[.string a0_3] (by rfl) rfl rfl (by (try simp only [List.map_toArray, List.map_cons, List.map_nil]); first | done | rfl | (simp only [List.length_drop, List.length_take]; rfl)) ?_
      with_reducible refine (rollcallref01_Text.calls k a0_3 t336 _ A6.out).mono ?_
      rintro e w17 ⟨rfl, hb⟩
      refine ⟨_, rfl, ?_⟩
      replace HO334 := Aside0.mk (Kd.R_below (rS HO334.out) hb)
      replace BK330 := Aside0.mk (blk_below (bS BK330.out) hb)
      replace HB := Aside0.mk (below_step (by repeat (first | (with_reducible first | exact HB.out | apply below_alloc | apply pw_below_drewN | apply below_drew1 | refine below_set ?_ GE330.out) | exact HB.out)) hb)
      (try clear hb)
      (try clear hb2)
      (try clear hk)
      (try clear hi)
      refine hK.out _ _ ⟨(blk_cell BK330.out 0).trans rfl, (blk_cell BK330.out 1).trans rfl, (blk_cell BK330.out 2).trans rfl, (blk_cell BK330.out 3).trans rfl⟩ (fun hHeld => ?_)
      clear hK K
      refine norm_ (a' := ?_) ?_ ?_
      rotate_left
      ·show Act.put _ (some 23) _ = _
       simp only [Act.put, List.setIfInBounds_toArray, List.set_cons_zero, List.set_cons_succ, i64_w, i32_w]
       rfl
      exact norm_ (by first | (simp only [putAll, Act.put, List.setIfInBounds_toArray, List.set_cons_zero, List.set_cons_succ]; done) | (simp only [putAll, Act.put, List.setIfInBounds_toArray, List.set_cons_zero, List.set_cons_succ]; rfl)) (hJ7_8_12_16 (v333) _ ⟨hHeld, (rS HO334.out), (bS BK330.out), (by repeat (first | (with_reducible first | exact HB.out | apply below_alloc | apply pw_below_drewN | apply below_drew1 | refine below_set ?_ GE330.out) | exact HB.out))⟩)
    rintro v333 w17 ⟨hS_, h0_, h1_, h2_⟩
    have HO334 : Aside0 (Kd.R (Kd.int .u8) 5 w17 w.heap.size (fun _ => True) v333 y332) := ⟨h0_⟩
    replace BK330 : Aside0 (w17.heap[gb330]? = some (.cells #[.int .i64 a0_0, .int .i64 a0_1, .int .i64 a0_2, .string a0_3] 32 (0, 0))) := ⟨h1_⟩
    replace HB : Aside0 (Below w.heap.size w w17) := ⟨h2_⟩
    clear h0_ h1_ h2_
    have hHeld : w17.cell? ⟨gb330, 0, none⟩ = some (.int .i64 a0_0) ∧ w17.cell? ⟨gb330, 1, none⟩ = some (.int .i64 a0_1) ∧ w17.cell? ⟨gb330, 2, none⟩ = some (.int .i64 a0_2) ∧ w17.cell? ⟨gb330, 3, none⟩ = some (.string a0_3) := hS_
    refine norm_ (a' := ?_) ?_ ?_
    rotate_left
    ·simp only [putAll, Act.put, List.setIfInBounds_toArray, List.set_cons_zero, List.set_cons_succ]
     rfl
    refine pure_ (i := 17) (N := some 24) (v := ?_) (a' := ?_) #[true, true, true, true, true, true, true, true, true, true, true, true, true, true, true, true, true, true, false, false] rfl rfl (any_of HT_.out (by kernel_rfl)) (fun _ _ _ h => h) (Or.inl ⟨by rfl, ?_⟩) ?_ ?_
    rotate_left
    ·intro w'
     go_simp
     with_reducible rfl
    rotate_left
    ·simp only [Act.put, List.setIfInBounds_toArray, List.set_cons_zero, List.set_cons_succ, i64_w, i32_w]
     rfl
    refine pure_ (i := 18) (N := some 2) (v := ?_) (a' := ?_) #[true, true, true, true, true, true, true, true, true, true, true, true, true, true, true, true, true, true, true, false] rfl rfl (any_of HT_.out (by kernel_rfl)) (fun _ _ _ h => h) (Or.inl ⟨by rfl, ?_⟩) ?_ ?_
    rotate_left
    ·intro w'
     go_simp
     with_reducible rfl
    rotate_left
    ·simp only [Act.put, List.setIfInBounds_toArray, List.set_cons_zero, List.set_cons_succ, i64_w, i32_w]
     rfl
    refine pure_ (i := 19) (N := some 3) (v := ?_) (a' := ?_) #[true, true, true, true, true, true, true, true, true, true, true, true, true, true, true, true, true, true, true, true] rfl rfl (any_of HT_.out (by kernel_rfl)) (fun _ _ _ h => h) (Or.inl ⟨by rfl, ?_⟩) ?_ ?_
    rotate_left
    ·intro w'
     go_simp
     with_reducible rfl
    rotate_left
    ·simp only [Act.put, List.setIfInBounds_toArray, List.set_cons_zero, List.set_cons_succ, i64_w, i32_w]
     rfl
    refine done_ (done_of HT_.out (by kernel_rfl)) ?_
    try go_wp2
    go_ret2
    exact ⟨by first | rfl | (simp [errW_none, errW_some] <;> rfl) | (simp [*, errW_none, errW_some] <;> rfl), by repeat (first | (with_reducible first | exact HB.out | apply below_alloc | apply pw_below_drewN | apply below_drew1 | refine below_set ?_ GE330.out) | exact HB.out)⟩
   ·rw [if_neg c7] at H
    exact absurd H (by simp)
  ·rw [if_neg c5] at H
   exact absurd H (by simp)
 ·replace c3 := Bool.eq_false_iff.mpr c3
  subst c3
  have H1 : (some ((⟨#[]⟩ : ByteArray), false)) = some (r1, r2) := by rw [if_neg (show ¬ (false = true) by decide)] at H; exact H
  clear H
  have H := H1
  clear H1
  simp only [Option.some.injEq, Prod.mk.injEq] at H
  obtain ⟨rfl, rfl⟩ := H
  go_enter Try.func80, Try.ntmps80
  go_wp2_with (first | ((with_reducible refine gate_dst (N := 1) rfl ?_); refine box_event ?hg (N := 1) ?hd (cs := #[.int .i64 a0_0, .int .i64 a0_1, .int .i64 a0_2, .string a0_3]) (t := 32) ?hr ?_; (case hd => rfl); (case hg => rfl); (case hr => first | (go_simp; done) | (go_simp; rfl)); intro gb330 hg w18 hbox hb; have BK330 := Aside0.mk (hbox); have GW330 := Aside0.mk ((by rw [hg]; exact (below_size (hS HB.out)) : w.heap.size ≤ gb330)); have GE330 := Aside0.mk ((by rw [hg]; exact (below_size (hS HB.out)) : w.heap.size ≤ gb330)); replace HB := Aside0.mk (below_step (hS HB.out) hb); clear hb hbox hg; have hcz19_0 : w18.cell? ⟨gb330, 0, none⟩ = some (.int .i64 a0_0) := (blk_cell BK330.out 0).trans rfl; have hcz19_1 : w18.cell? ⟨gb330, 1, none⟩ = some (.int .i64 a0_1) := (blk_cell BK330.out 1).trans rfl; have hcz19_2 : w18.cell? ⟨gb330, 2, none⟩ = some (.int .i64 a0_2) := (blk_cell BK330.out 2).trans rfl; have hcz19_3 : w18.cell? ⟨gb330, 3, none⟩ = some (.string a0_3) := (blk_cell BK330.out 3).trans rfl; have hfz19_0 := blk_frozen BK330.out 0; have hfz19_1 := blk_frozen BK330.out 1; have hfz19_2 := blk_frozen BK330.out 2; have hfz19_3 := blk_frozen BK330.out 3) | ((with_reducible refine gate_callee (f := 57) rfl ?_); refine goesL_ (some 5) rfl rfl Try.func57 (by kernel_rfl) rfl #[.agg #[.int .i64 a0_0, .int .i64 a0_1, .int .i64 a0_2, .string a0_3]] rfl (by (try simp only [List.map_toArray, List.map_cons, List.map_nil]); first | done | rfl | (simp only [List.length_drop, List.length_take]; rfl)) ?_; (with_reducible refine (rollcallref04_May.calls k a0_0 a0_1 a0_2 a0_3 false _ A2.out).mono ?_); rintro e w20 ⟨rfl, hb⟩; refine ⟨_, rfl, ?_⟩; replace BK330 := Aside0.mk (blk_below (bS BK330.out) hb); replace HB := Aside0.mk (below_step (hS HB.out) hb); (try clear hb); (try clear hb2); (try clear hk); (try clear hi)))
  go_ret2
  exact ⟨by first | rfl | (simp [errW_none, errW_some] <;> rfl) | (simp [*, errW_none, errW_some] <;> rfl), by repeat (first | (with_reducible first | exact HB.out | apply below_alloc | apply pw_below_drewN | apply below_drew1 | refine below_set ?_ GE330.out) | exact HB.out)⟩

end Go.Proofs.Ytmigglldahkngaa.PA
end

section
/- Numbers of seven bits a byte, in plain numbers: what the walk's function getGo tells of bytes that were laid by 'digs', and the other way round. -/
namespace Go.Proofs.Ytmigglldahkngaa.XVar
open Go.RowKit Go.Proofs.YtmigglldahkngaaW.PrintWords Go.Proofs.YtmigglldahkngaaW.PrintLast Go.Proofs.YtmigglldahkngaaW.PrintMore
set_option linter.unusedVariables false
set_option linter.unusedSimpArgs false

/-- 128 to the power of j. -/
def pw : Nat → Int
 | 0 => 1
 | j + 1 => 128 * pw j
theorem pw_pos : ∀ j, 0 < pw j
 | 0 => by simp [pw]
 | j + 1 => by have := pw_pos j; simp only [pw]; omega
theorem wrap_u64 (n : Int) (h0 : 0 ≤ n) (h1 : n < 18446744073709551616) : IntKind.u64.wrap n = n := by
 simp [IntKind.wrap, IntKind.bits, IntKind.signed]
 omega
theorem wrap_id (n : Int) (h0 : -9223372036854775808 ≤ n) (h1 : n ≤ 9223372036854775807) : wrap64 n = n := by unfold wrap64; omega
theorem or128 (b : Int) : bits .or .u8 (b % 256) 128 = 128 + b % 128 := by
 have h : ∀ n : Fin 256, bits .or .u8 ((n.1 : Nat) : Int) 128 = 128 + ((n.1 : Nat) : Int) % 128 := by decide +kernel
 have h2 := h ⟨(b % 256).toNat, by omega⟩
 rw [Int.toNat_of_nonneg (by omega)] at h2
 omega
theorem ten (j : Nat) (hj : j ≤ 9) : j = 0 ∨ j = 1 ∨ j = 2 ∨ j = 3 ∨ j = 4 ∨ j = 5 ∨ j = 6 ∨ j = 7 ∨ j = 8 ∨ j = 9 := by omega
/-- A number's bytes. -/
def digs : Nat → Int → List Int
 | 0, _ => []
 | d + 1, n => if n ≥ 128 then (128 + n % 128) :: digs d (n / 128) else [n]
theorem digs_len : ∀ d n, (digs d n).length ≤ d
 | 0, _ => by simp [digs]
 | d + 1, n => by
  rw [digs]
  split
  ·have := digs_len d (n / 128)
   simp only [List.length_cons]
   omega
  ·simp
theorem digs_pos (d : Nat) (n : Int) : 1 ≤ (digs (d + 1) n).length := by
 rw [digs]
 split <;> simp
end Go.Proofs.Ytmigglldahkngaa.XVar
end

section
/- Bytes at places: of texts that are joined, cut, or made of numbers. No program is in sight. -/
namespace Go.Proofs.Ytmigglldahkngaa.XBytes
open Go.RowKit Go.Proofs.YtmigglldahkngaaW.PrintWords Go.Proofs.YtmigglldahkngaaW.PrintLast Go.Proofs.YtmigglldahkngaaW.PrintMore Go.Proofs.Ytmigglldahkngaa.XVar
set_option linter.unusedVariables false
set_option linter.unusedSimpArgs false

theorem size_len (s : ByteArray) : s.size = s.data.toList.length := by rw [Array.length_toList]; rfl
theorem ba_ext {a b : ByteArray} (h : a.data.toList = b.data.toList) : a = b := by
 apply ByteArray.ext
 exact Array.toList_inj.1 h
theorem ba_ext' {a b : ByteArray} (h : a.toList = b.toList) : a = b := ba_ext (by rw [← Lib.toList_data, ← Lib.toList_data]; exact h)
theorem toList_inj {a b : ByteArray} : a.toList = b.toList ↔ a = b := ⟨ba_ext', fun h => by rw [h]⟩
theorem app_data (a b : ByteArray) : (a ++ b).data.toList = a.data.toList ++ b.data.toList := by simp [ByteArray.data_append]
theorem app_size (a b : ByteArray) : (a ++ b).size = a.size + b.size := ByteArray.size_append ..
theorem app_assoc (a b c : ByteArray) : (a ++ b) ++ c = a ++ (b ++ c) := ba_ext (by simp only [app_data, List.append_assoc])
theorem ext_data (s : ByteArray) (a b : Nat) : (s.extract a b).data.toList = (s.data.toList.drop a).take (b - a) := Lib.extract_data s a b
theorem ext_size (s : ByteArray) (a b : Nat) : (s.extract a b).size = min b s.size - a := ByteArray.size_extract
end Go.Proofs.Ytmigglldahkngaa.XBytes
end

section
-- Written by a program of this session (wip/tools/xprint.py), which drives the kit's print.
namespace Go.Proofs.Ytmigglldahkngaa.PA
open Go.RowKit Go.Proofs.YtmigglldahkngaaW.PrintWords Go.Proofs.YtmigglldahkngaaW.PrintLast Go.Proofs.YtmigglldahkngaaW.PrintMore Go.Proofs.Ytmigglldahkngaa.XQuiet
attribute [local go_sem] max2_int min2_int max_two min_two   -- for this text's walks alone
set_option linter.unusedVariables false
set_option linter.unusedSimpArgs false

/-! ### queue_May: function 43 -/
def queue_May.l0 : Nat → Int → List (S34) → Int → Int → List (S34) → Bool → Option (Bool)
 | 0, _, _, _, _, _, _ => none
 | k + 1, x1, x10, x11, x12, x136000, x136001 => if x12 < x11 then (if 0 ≤ x12 then (if x12 < (x10.length : Int) then ((api_Change_string.f x136000 ((rd_T34 x10 x12).f0)).bind fun bt138 => (if bt138.1 = x12 then ((queue_One.f ((rd_T34 x10 x12).f0) ((rd_T34 x10 x12).f1) ((rd_T34 x10 x12).f2.f0) ((rd_T34 x10 x12).f2.f1) ((rd_T34 x10 x12).f2.f2) ((rd_T34 x10 x12).f2.f3)).bind fun t140 => (if t140 = true then (queue_May.l0 k x1 x10 x11 (wrap64 (x12 + 1)) x136000 x136001) else (some false))) else (some false))) else (none)) else (none)) else (if (x136000.length : Int) ≤ x1 then (if x136001 = true then (some ((x136000.length : Int) == 0)) else (some true)) else (some false))
def queue_May.f (k : Nat) (l0_0 : List (S34)) (a0_1 : Bool) (a1 : Int) : Option (Bool) := queue_May.l0 k a1 l0_0 (l0_0.length : Int) 0 l0_0 a0_1
set_option maxHeartbeats 8000000 in
set_option maxRecDepth 100000 in
theorem queue_May.calls (k : Nat) (A0_0 : Option Addr) (c0_0 : Nat) (l0_0 : List (S34)) (a0_1 : Bool) (a1 : Int) (r : Bool) (w : World) (hr0_0 : Kd.C k34 w A0_0 l0_0.length l0_0) (hc0_0 : l0_0.length ≤ c0_0) (h : queue_May.f k l0_0 a0_1 a1 = some r) :
  Calls Try.prog 43 #[.agg #[.slice A0_0 l0_0.length c0_0, .bool a0_1], .int .i64 a1] w fun e w' => e = .returned (.bool r) ∧ Below w.heap.size w w' := by
 have hu26 := Try.underlying26
 have hu34 := Try.underlying34
 have HR0_0 := Aside0.mk hr0_0
 have HC0_0 := Aside0.mk hc0_0
 clear hr0_0 hc0_0
 have HB := Aside0.mk (Below.refl w.heap.size w)
 have H : (queue_May.l0 k a1 l0_0 (l0_0.length : Int) 0 l0_0 a0_1) = some r := h
 clear h
 have H' := Aside0.mk H
 clear H
 go_enter Try.func43, Try.ntmps43
 go_wp2_with (first | ((with_reducible refine gate_dst (N := 2) rfl ?_); (try (refine gate_guard (by rfl) ?_; dsimp only)); refine box_event ?hg (N := 2) ?hd (cs := #[.slice A0_0 l0_0.length c0_0, .bool a0_1]) (t := 26) ?hr ?_; (case hd => rfl); (case hg => rfl); (case hr => first | (go_simp; done) | (go_simp; rfl)); intro gb135 hg w3 hbox hb; have BK135 := Aside0.mk (hbox); have GW135 := Aside0.mk ((by rw [hg]; exact (below_size (hS HB.out)) : w.heap.size ≤ gb135)); have GE135 := Aside0.mk ((by rw [hg]; exact (below_size (hS HB.out)) : w.heap.size ≤ gb135)); replace HB := Aside0.mk (below_step (hS HB.out) hb); clear hb hbox hg; have hcz4_0 : w3.cell? ⟨gb135, 0, none⟩ = some (.slice A0_0 l0_0.length c0_0) := (blk_cell BK135.out 0).trans rfl; have hcz4_1 : w3.cell? ⟨gb135, 1, none⟩ = some (.bool a0_1) := (blk_cell BK135.out 1).trans rfl; have hfz4_0 := blk_frozen BK135.out 0; have hfz4_1 := blk_frozen BK135.out 1))
 go_loopg [12] k (fun kq v12 w' => ∃ (x12_1 : Int), v12 = .int .i64 x12_1 ∧ Aside0 (queue_May.l0 kq a1 l0_0 (l0_0.length : Int) x12_1 l0_0 a0_1 = some r) ∧ Aside0 (kq ≤ k) ∧ Aside0 (w'.heap[gb135]? = some (.cells #[(.slice A0_0 l0_0.length c0_0), .bool a0_1] 26 (0, 0))) ∧ Aside0 (Below w.heap.size w w'))
 case atStart => exact ⟨(0), (by first | rfl | (simp; done) | (simp [*]; done)), H', ⟨Nat.le_refl _⟩, ⟨bS BK135.out⟩, ⟨by repeat (first | (with_reducible first | exact HB.out | apply below_alloc | apply pw_below_drewN | apply below_drew1 | refine below_set ?_ GE135.out) | exact HB.out)⟩⟩
 case round =>
  clear H'
  try clear p2
  try clear c4
  try clear hcz4_0
  try clear hcz4_1
  try clear hfz4_0
  try clear hfz4_1
  obtain ⟨x12_1, rfl, HA, HK1, BK135, HB⟩ := hrel
  cases gk with
  | zero => exact absurd HA.out (by simp [queue_May.l0])
  | succ k1 =>
   have H := HA.out
   clear HA
   simp only [queue_May.l0] at H
   by_cases c5 : x12_1 < (l0_0.length : Int)
   ·rw [if_pos c5] at H
    have c5b0 : decide (x12_1 < (l0_0.length : Int)) = true := decide_eq_true c5
    clear c5
    by_cases c6 : 0 ≤ x12_1
    ·rw [if_pos c6] at H
     have c6b0 : decide (0 ≤ x12_1) = true := decide_eq_true c6
     clear c6
     by_cases c7 : x12_1 < (l0_0.length : Int)
     ·rw [if_pos c7] at H
      have c7b0 : decide (x12_1 < (l0_0.length : Int)) = true := decide_eq_true c7
      clear c7
      replace H := Option.bind_eq_some_iff.mp H
      obtain ⟨⟨t138, t139⟩, A80, H⟩ := H
      replace H : (if t138 = x12_1 then ((queue_One.f ((rd_T34 l0_0 x12_1).f0) ((rd_T34 l0_0 x12_1).f1) ((rd_T34 l0_0 x12_1).f2.f0) ((rd_T34 l0_0 x12_1).f2.f1) ((rd_T34 l0_0 x12_1).f2.f2) ((rd_T34 l0_0 x12_1).f2.f3)).bind fun t140 => (if t140 = true then (queue_May.l0 k1 a1 l0_0 (l0_0.length : Int) (wrap64 (x12_1 + 1)) l0_0 a0_1) else (some false))) else (some false)) = some r := H
      have A8 := Aside0.mk A80
      clear A80
      by_cases c9 : t138 = x12_1
      ·rw [if_pos c9] at H
       have c9b0 : (t138 == x12_1) = true := beq_iff_eq.mpr c9
       have c9b1 : (t138 != x12_1) = false := bne_eq_false_iff_eq.mpr c9
       clear c9
       replace H := Option.bind_eq_some_iff.mp H
       obtain ⟨t140, A100, H⟩ := H
       replace H : (if t140 = true then (queue_May.l0 k1 a1 l0_0 (l0_0.length : Int) (wrap64 (x12_1 + 1)) l0_0 a0_1) else (some false)) = some r := H
       have A10 := Aside0.mk A100
       clear A100
       by_cases c11 : t140 = true
       ·subst c11
        have H1 : (queue_May.l0 k1 a1 l0_0 (l0_0.length : Int) (wrap64 (x12_1 + 1)) l0_0 a0_1) = some r := by rw [if_pos rfl] at H; exact H
        clear H
        have H := H1
        clear H1
        have H' := Aside0.mk H
        clear H
        have p136 : 0 ≤ (x12_1 : Int) := of_decide_eq_true (by first | (with_reducible assumption) | assumption)
        have q136 : x12_1 < (l0_0.length : Int) := of_decide_eq_true (by first | (with_reducible assumption) | assumption)
        obtain ⟨ad136, e136, hx136_0, hx136_1, hx136_2, hx136_3, hx136_4, hx136_5⟩ := at_T34 HR0_0.out x12_1 p136 q136
        cases e136
        replace hx136_0 := (HB.out.cell (World.block_lt_of_cell? w _ hx136_0)).trans hx136_0
        replace hx136_1 := (HB.out.cell (World.block_lt_of_cell? w _ hx136_1)).trans hx136_1
        replace hx136_2 := (HB.out.cell (World.block_lt_of_cell? w _ hx136_2)).trans hx136_2
        replace hx136_3 := (HB.out.cell (World.block_lt_of_cell? w _ hx136_3)).trans hx136_3
        replace hx136_4 := (HB.out.cell (World.block_lt_of_cell? w _ hx136_4)).trans hx136_4
        replace hx136_5 := (HB.out.cell (World.block_lt_of_cell? w _ hx136_5)).trans hx136_5
        replace p136 := eq_true p136
        replace q136 := eq_true q136
        go_wp2_with (first | ((with_reducible refine gate_dst (N := 6) rfl ?_); (try (refine gate_guard (by rfl) ?_; dsimp only)); refine box_event ?hg (N := 6) ?hd (cs := #[.string (⟨#[]⟩ : ByteArray), .bool false, .int .i64 0, .int .i64 0, .int .i64 0, .string (⟨#[]⟩ : ByteArray)]) (t := 34) ?hr ?_; (case hd => rfl); (case hg => rfl); (case hr => first | (go_simp; done) | (go_simp; rfl)); intro gb137 hg w12 hbox hb; have BK137 := Aside0.mk (hbox); have GW137 := Aside0.mk ((by rw [hg]; exact (below_size (hS HB.out)) : w.heap.size ≤ gb137)); have GE137 := Aside0.mk ((by rw [hg]; exact (below_size (hS HB.out)) : w.heap.size ≤ gb137)); replace HB := Aside0.mk (below_step (hS HB.out) hb); have NB135_137 := Aside0.mk ((by rw [hg]; exact Nat.ne_of_lt (blk_lt (bS BK135.out)) : gb135 ≠ gb137)); have NB137_135 := Aside0.mk ((by rw [hg]; exact Nat.ne_of_gt (blk_lt (bS BK135.out)) : gb137 ≠ gb135)); replace BK135 := Aside0.mk (blk_below (bS BK135.out) hb); clear hb hbox hg; have hnb13 := NB137_135.out; have hnc13 := NB135_137.out; have hcz14_0 : w12.cell? ⟨gb137, 0, none⟩ = some (.string (⟨#[]⟩ : ByteArray)) := (blk_cell BK137.out 0).trans rfl; have hcz14_1 : w12.cell? ⟨gb137, 1, none⟩ = some (.bool false) := (blk_cell BK137.out 1).trans rfl; have hcz14_2 : w12.cell? ⟨gb137, 2, none⟩ = some (.int .i64 0) := (blk_cell BK137.out 2).trans rfl; have hcz14_3 : w12.cell? ⟨gb137, 3, none⟩ = some (.int .i64 0) := (blk_cell BK137.out 3).trans rfl; have hcz14_4 : w12.cell? ⟨gb137, 4, none⟩ = some (.int .i64 0) := (blk_cell BK137.out 4).trans rfl; have hcz14_5 : w12.cell? ⟨gb137, 5, none⟩ = some (.string (⟨#[]⟩ : ByteArray)) := (blk_cell BK137.out 5).trans rfl; have hfz14_0 := blk_frozen BK137.out 0; have hfz14_1 := blk_frozen BK137.out 1; have hfz14_2 := blk_frozen BK137.out 2; have hfz14_3 := blk_frozen BK137.out 3; have hfz14_4 := blk_frozen BK137.out 4; have hfz14_5 := blk_frozen BK137.out 5; have hcz15_0 : w12.cell? ⟨gb135, 0, none⟩ = some (.slice (some ad136) l0_0.length c0_0) := (blk_cell BK135.out 0).trans rfl; have hcz15_1 : w12.cell? ⟨gb135, 1, none⟩ = some (.bool a0_1) := (blk_cell BK135.out 1).trans rfl; have hfz15_0 := blk_frozen BK135.out 0; have hfz15_1 := blk_frozen BK135.out 1) | ((with_reducible refine gate_callee (f := 62) rfl ?_); refine goesL_ (some 22) rfl rfl Try.func62 (by kernel_rfl) rfl #[.slice (some ad136) l0_0.length c0_0, .string ((rd_T34 l0_0 x12_1).f0), .func (.func 63) #[] #[]] rfl (by (try simp only [List.map_toArray, List.map_cons, List.map_nil]); first | done | rfl | (simp only [List.length_drop, List.length_take]; rfl)) ?_; (with_reducible refine (api_Change_string.calls _ _ l0_0 ((rd_T34 l0_0 x12_1).f0) t138 t139 _ ?side1 ?side2 A8.out).mono ?_); (case side1 => exact Kd.C_below HR0_0.out (hF HB.out GE137.out)); (case side2 => exact HC0_0.out); rintro e w16 ⟨rfl, hb⟩; refine ⟨_, rfl, ?_⟩; replace BK135 := Aside0.mk (blk_below (bF (BK135.out) NB135_137.out) hb); replace BK137 := Aside0.mk (blk_below (g := gb137) (o := .cells #[.string ((rd_T34 l0_0 x12_1).f0), .bool ((rd_T34 l0_0 x12_1).f1), .int .i64 ((rd_T34 l0_0 x12_1).f2.f0), .int .i64 ((rd_T34 l0_0 x12_1).f2.f1), .int .i64 ((rd_T34 l0_0 x12_1).f2.f2), .string ((rd_T34 l0_0 x12_1).f2.f3)] 34 (0, 0)) (bS (blk_put (bS (blk_put (bS (blk_put (bS (blk_put (bS (blk_put (bS (blk_put (bS BK137.out) 0 _ rfl)) 1 _ rfl)) 2 _ rfl)) 3 _ rfl)) 4 _ rfl)) 5 _ rfl)) hb); replace HB := Aside0.mk (below_step (hF HB.out GE137.out) hb); (try clear hb); (try clear hb2); (try clear hk); (try clear hi); have hcz17_0 : w16.cell? ⟨gb137, 0, none⟩ = some (.string ((rd_T34 l0_0 x12_1).f0)) := (blk_cell BK137.out 0).trans rfl; have hcz17_1 : w16.cell? ⟨gb137, 1, none⟩ = some (.bool ((rd_T34 l0_0 x12_1).f1)) := (blk_cell BK137.out 1).trans rfl; have hcz17_2 : w16.cell? ⟨gb137, 2, none⟩ = some (.int .i64 ((rd_T34 l0_0 x12_1).f2.f0)) := (blk_cell BK137.out 2).trans rfl; have hcz17_3 : w16.cell? ⟨gb137, 3, none⟩ = some (.int .i64 ((rd_T34 l0_0 x12_1).f2.f1)) := (blk_cell BK137.out 3).trans rfl; have hcz17_4 : w16.cell? ⟨gb137, 4, none⟩ = some (.int .i64 ((rd_T34 l0_0 x12_1).f2.f2)) := (blk_cell BK137.out 4).trans rfl; have hcz17_5 : w16.cell? ⟨gb137, 5, none⟩ = some (.string ((rd_T34 l0_0 x12_1).f2.f3)) := (blk_cell BK137.out 5).trans rfl; have hfz17_0 := blk_frozen BK137.out 0; have hfz17_1 := blk_frozen BK137.out 1; have hfz17_2 := blk_frozen BK137.out 2; have hfz17_3 := blk_frozen BK137.out 3; have hfz17_4 := blk_frozen BK137.out 4; have hfz17_5 := blk_frozen BK137.out 5) | (go_at_call 64; (with_reducible refine (queue_One.calls ((rd_T34 l0_0 x12_1).f0) ((rd_T34 l0_0 x12_1).f1) ((rd_T34 l0_0 x12_1).f2.f0) ((rd_T34 l0_0 x12_1).f2.f1) ((rd_T34 l0_0 x12_1).f2.f2) ((rd_T34 l0_0 x12_1).f2.f3) true _ A10.out).mono ?_); rintro e w18 ⟨rfl, hb⟩; replace BK135 := Aside0.mk (blk_below (bS BK135.out) hb); replace BK137 := Aside0.mk (blk_below (bS BK137.out) hb); replace HB := Aside0.mk (below_step (hS HB.out) hb); (try clear hb); (try clear hb2); (try clear hk); (try clear hi)))
        go_roundg k1
        case measure => have := HK1.out; omega
        case rel => exact ⟨(wrap64 (x12_1 + 1)), (by first | rfl | (simp; done) | (simp [*]; done)), H', ⟨by have := HK1.out; omega⟩, ⟨bS BK135.out⟩, ⟨by repeat (first | (with_reducible first | exact HB.out | apply below_alloc | apply pw_below_drewN | apply below_drew1 | refine below_set ?_ GE135.out | refine below_set ?_ GE137.out) | exact HB.out)⟩⟩
       ·replace c11 := Bool.eq_false_iff.mpr c11
        subst c11
        have H1 : (some false) = some r := by rw [if_neg (show ¬ (false = true) by decide)] at H; exact H
        clear H
        have H := H1
        clear H1
        obtain rfl := Option.some.inj H
        have p136 : 0 ≤ (x12_1 : Int) := of_decide_eq_true (by first | (with_reducible assumption) | assumption)
        have q136 : x12_1 < (l0_0.length : Int) := of_decide_eq_true (by first | (with_reducible assumption) | assumption)
        obtain ⟨ad136, e136, hx136_0, hx136_1, hx136_2, hx136_3, hx136_4, hx136_5⟩ := at_T34 HR0_0.out x12_1 p136 q136
        cases e136
        replace hx136_0 := (HB.out.cell (World.block_lt_of_cell? w _ hx136_0)).trans hx136_0
        replace hx136_1 := (HB.out.cell (World.block_lt_of_cell? w _ hx136_1)).trans hx136_1
        replace hx136_2 := (HB.out.cell (World.block_lt_of_cell? w _ hx136_2)).trans hx136_2
        replace hx136_3 := (HB.out.cell (World.block_lt_of_cell? w _ hx136_3)).trans hx136_3
        replace hx136_4 := (HB.out.cell (World.block_lt_of_cell? w _ hx136_4)).trans hx136_4
        replace hx136_5 := (HB.out.cell (World.block_lt_of_cell? w _ hx136_5)).trans hx136_5
        replace p136 := eq_true p136
        replace q136 := eq_true q136
        go_wp2_with (first | ((with_reducible refine gate_dst (N := 6) rfl ?_); (try (refine gate_guard (by rfl) ?_; dsimp only)); refine box_event ?hg (N := 6) ?hd (cs := #[.string (⟨#[]⟩ : ByteArray), .bool false, .int .i64 0, .int .i64 0, .int .i64 0, .string (⟨#[]⟩ : ByteArray)]) (t := 34) ?hr ?_; (case hd => rfl); (case hg => rfl); (case hr => first | (go_simp; done) | (go_simp; rfl)); intro gb137 hg w19 hbox hb; have BK137 := Aside0.mk (hbox); have GW137 := Aside0.mk ((by rw [hg]; exact (below_size (hS HB.out)) : w.heap.size ≤ gb137)); have GE137 := Aside0.mk ((by rw [hg]; exact (below_size (hS HB.out)) : w.heap.size ≤ gb137)); replace HB := Aside0.mk (below_step (hS HB.out) hb); have NB135_137 := Aside0.mk ((by rw [hg]; exact Nat.ne_of_lt (blk_lt (bS BK135.out)) : gb135 ≠ gb137)); have NB137_135 := Aside0.mk ((by rw [hg]; exact Nat.ne_of_gt (blk_lt (bS BK135.out)) : gb137 ≠ gb135)); replace BK135 := Aside0.mk (blk_below (bS BK135.out) hb); clear hb hbox hg; have hnb20 := NB137_135.out; have hnc20 := NB135_137.out; have hcz21_0 : w19.cell? ⟨gb137, 0, none⟩ = some (.string (⟨#[]⟩ : ByteArray)) := (blk_cell BK137.out 0).trans rfl; have hcz21_1 : w19.cell? ⟨gb137, 1, none⟩ = some (.bool false) := (blk_cell BK137.out 1).trans rfl; have hcz21_2 : w19.cell? ⟨gb137, 2, none⟩ = some (.int .i64 0) := (blk_cell BK137.out 2).trans rfl; have hcz21_3 : w19.cell? ⟨gb137, 3, none⟩ = some (.int .i64 0) := (blk_cell BK137.out 3).trans rfl; have hcz21_4 : w19.cell? ⟨gb137, 4, none⟩ = some (.int .i64 0) := (blk_cell BK137.out 4).trans rfl; have hcz21_5 : w19.cell? ⟨gb137, 5, none⟩ = some (.string (⟨#[]⟩ : ByteArray)) := (blk_cell BK137.out 5).trans rfl; have hfz21_0 := blk_frozen BK137.out 0; have hfz21_1 := blk_frozen BK137.out 1; have hfz21_2 := blk_frozen BK137.out 2; have hfz21_3 := blk_frozen BK137.out 3; have hfz21_4 := blk_frozen BK137.out 4; have hfz21_5 := blk_frozen BK137.out 5; have hcz22_0 : w19.cell? ⟨gb135, 0, none⟩ = some (.slice (some ad136) l0_0.length c0_0) := (blk_cell BK135.out 0).trans rfl; have hcz22_1 : w19.cell? ⟨gb135, 1, none⟩ = some (.bool a0_1) := (blk_cell BK135.out 1).trans rfl; have hfz22_0 := blk_frozen BK135.out 0; have hfz22_1 := blk_frozen BK135.out 1) | ((with_reducible refine gate_callee (f := 62) rfl ?_); refine goesL_ (some 22) rfl rfl Try.func62 (by kernel_rfl) rfl #[.slice (some ad136) l0_0.length c0_0, .string ((rd_T34 l0_0 x12_1).f0), .func (.func 63) #[] #[]] rfl (by (try simp only [List.map_toArray, List.map_cons, List.map_nil]); first | done | rfl | (simp only [List.length_drop, List.length_take]; rfl)) ?_; (with_reducible refine (api_Change_string.calls _ _ l0_0 ((rd_T34 l0_0 x12_1).f0) t138 t139 _ ?side1 ?side2 A8.out).mono ?_); (case side1 => exact Kd.C_below HR0_0.out (hF HB.out GE137.out)); (case side2 => exact HC0_0.out); rintro e w23 ⟨rfl, hb⟩; refine ⟨_, rfl, ?_⟩; replace BK135 := Aside0.mk (blk_below (bF (BK135.out) NB135_137.out) hb); replace BK137 := Aside0.mk (blk_below (g := gb137) (o := .cells #[.string ((rd_T34 l0_0 x12_1).f0), .bool ((rd_T34 l0_0 x12_1).f1), .int .i64 ((rd_T34 l0_0 x12_1).f2.f0), .int .i64 ((rd_T34 l0_0 x12_1).f2.f1), .int .i64 ((rd_T34 l0_0 x12_1).f2.f2), .string ((rd_T34 l0_0 x12_1).f2.f3)] 34 (0, 0)) (bS (blk_put (bS (blk_put (bS (blk_put (bS (blk_put (bS (blk_put (bS (blk_put (bS BK137.out) 0 _ rfl)) 1 _ rfl)) 2 _ rfl)) 3 _ rfl)) 4 _ rfl)) 5 _ rfl)) hb); replace HB := Aside0.mk (below_step (hF HB.out GE137.out) hb); (try clear hb); (try clear hb2); (try clear hk); (try clear hi); have hcz24_0 : w23.cell? ⟨gb137, 0, none⟩ = some (.string ((rd_T34 l0_0 x12_1).f0)) := (blk_cell BK137.out 0).trans rfl; have hcz24_1 : w23.cell? ⟨gb137, 1, none⟩ = some (.bool ((rd_T34 l0_0 x12_1).f1)) := (blk_cell BK137.out 1).trans rfl; have hcz24_2 : w23.cell? ⟨gb137, 2, none⟩ = some (.int .i64 ((rd_T34 l0_0 x12_1).f2.f0)) := (blk_cell BK137.out 2).trans rfl; have hcz24_3 : w23.cell? ⟨gb137, 3, none⟩ = some (.int .i64 ((rd_T34 l0_0 x12_1).f2.f1)) := (blk_cell BK137.out 3).trans rfl; have hcz24_4 : w23.cell? ⟨gb137, 4, none⟩ = some (.int .i64 ((rd_T34 l0_0 x12_1).f2.f2)) := (blk_cell BK137.out 4).trans rfl; have hcz24_5 : w23.cell? ⟨gb137, 5, none⟩ = some (.string ((rd_T34 l0_0 x12_1).f2.f3)) := (blk_cell BK137.out 5).trans rfl; have hfz24_0 := blk_frozen BK137.out 0; have hfz24_1 := blk_frozen BK137.out 1; have hfz24_2 := blk_frozen BK137.out 2; have hfz24_3 := blk_frozen BK137.out 3; have hfz24_4 := blk_frozen BK137.out 4; have hfz24_5 := blk_frozen BK137.out 5) | (go_at_call 64; (with_reducible refine (queue_One.calls ((rd_T34 l0_0 x12_1).f0) ((rd_T34 l0_0 x12_1).f1) ((rd_T34 l0_0 x12_1).f2.f0) ((rd_T34 l0_0 x12_1).f2.f1) ((rd_T34 l0_0 x12_1).f2.f2) ((rd_T34 l0_0 x12_1).f2.f3) false _ A10.out).mono ?_); rintro e w25 ⟨rfl, hb⟩; replace BK135 := Aside0.mk (blk_below (bS BK135.out) hb); replace BK137 := Aside0.mk (blk_below (bS BK137.out) hb); replace HB := Aside0.mk (below_step (hS HB.out) hb); (try clear hb); (try clear hb2); (try clear hk); (try clear hi)))
        go_ret
        exact ⟨by first | rfl | (simp [errW_none, errW_some] <;> rfl) | (simp [*, errW_none, errW_some] <;> rfl), by repeat (first | (with_reducible first | exact HB.out | apply below_alloc | apply pw_below_drewN | apply below_drew1 | refine below_set ?_ GE135.out | refine below_set ?_ GE137.out) | exact HB.out)⟩
      ·rw [if_neg c9] at H
       have c9b0 : (t138 == x12_1) = false := beq_eq_false_iff_ne.mpr c9
       have c9b1 : (t138 != x12_1) = true := bne_iff_ne.mpr c9
       obtain rfl := Option.some.inj H
       have p136 : 0 ≤ (x12_1 : Int) := of_decide_eq_true (by first | (with_reducible assumption) | assumption)
       have q136 : x12_1 < (l0_0.length : Int) := of_decide_eq_true (by first | (with_reducible assumption) | assumption)
       obtain ⟨ad136, e136, hx136_0, hx136_1, hx136_2, hx136_3, hx136_4, hx136_5⟩ := at_T34 HR0_0.out x12_1 p136 q136
       cases e136
       replace hx136_0 := (HB.out.cell (World.block_lt_of_cell? w _ hx136_0)).trans hx136_0
       replace hx136_1 := (HB.out.cell (World.block_lt_of_cell? w _ hx136_1)).trans hx136_1
       replace hx136_2 := (HB.out.cell (World.block_lt_of_cell? w _ hx136_2)).trans hx136_2
       replace hx136_3 := (HB.out.cell (World.block_lt_of_cell? w _ hx136_3)).trans hx136_3
       replace hx136_4 := (HB.out.cell (World.block_lt_of_cell? w _ hx136_4)).trans hx136_4
       replace hx136_5 := (HB.out.cell (World.block_lt_of_cell? w _ hx136_5)).trans hx136_5
       replace p136 := eq_true p136
       replace q136 := eq_true q136
       go_wp2_with (first | ((with_reducible refine gate_dst (N := 6) rfl ?_); (try (refine gate_guard (by rfl) ?_; dsimp only)); refine box_event ?hg (N := 6) ?hd (cs := #[.string (⟨#[]⟩ : ByteArray), .bool false, .int .i64 0, .int .i64 0, .int .i64 0, .string (⟨#[]⟩ : ByteArray)]) (t := 34) ?hr ?_; (case hd => rfl); (case hg => rfl); (case hr => first | (go_simp; done) | (go_simp; rfl)); intro gb137 hg w26 hbox hb; have BK137 := Aside0.mk (hbox); have GW137 := Aside0.mk ((by rw [hg]; exact (below_size (hS HB.out)) : w.heap.size ≤ gb137)); have GE137 := Aside0.mk ((by rw [hg]; exact (below_size (hS HB.out)) : w.heap.size ≤ gb137)); replace HB := Aside0.mk (below_step (hS HB.out) hb); have NB135_137 := Aside0.mk ((by rw [hg]; exact Nat.ne_of_lt (blk_lt (bS BK135.out)) : gb135 ≠ gb137)); have NB137_135 := Aside0.mk ((by rw [hg]; exact Nat.ne_of_gt (blk_lt (bS BK135.out)) : gb137 ≠ gb135)); replace BK135 := Aside0.mk (blk_below (bS BK135.out) hb); clear hb hbox hg; have hnb27 := NB137_135.out; have hnc27 := NB135_137.out; have hcz28_0 : w26.cell? ⟨gb137, 0, none⟩ = some (.string (⟨#[]⟩ : ByteArray)) := (blk_cell BK137.out 0).trans rfl; have hcz28_1 : w26.cell? ⟨gb137, 1, none⟩ = some (.bool false) := (blk_cell BK137.out 1).trans rfl; have hcz28_2 : w26.cell? ⟨gb137, 2, none⟩ = some (.int .i64 0) := (blk_cell BK137.out 2).trans rfl; have hcz28_3 : w26.cell? ⟨gb137, 3, none⟩ = some (.int .i64 0) := (blk_cell BK137.out 3).trans rfl; have hcz28_4 : w26.cell? ⟨gb137, 4, none⟩ = some (.int .i64 0) := (blk_cell BK137.out 4).trans rfl; have hcz28_5 : w26.cell? ⟨gb137, 5, none⟩ = some (.string (⟨#[]⟩ : ByteArray)) := (blk_cell BK137.out 5).trans rfl; have hfz28_0 := blk_frozen BK137.out 0; have hfz28_1 := blk_frozen BK137.out 1; have hfz28_2 := blk_frozen BK137.out 2; have hfz28_3 := blk_frozen BK137.out 3; have hfz28_4 := blk_frozen BK137.out 4; have hfz28_5 := blk_frozen BK137.out 5; have hcz29_0 : w26.cell? ⟨gb135, 0, none⟩ = some (.slice (some ad136) l0_0.length c0_0) := (blk_cell BK135.out 0).trans rfl; have hcz29_1 : w26.cell? ⟨gb135, 1, none⟩ = some (.bool a0_1) := (blk_cell BK135.out 1).trans rfl; have hfz29_0 := blk_frozen BK135.out 0; have hfz29_1 := blk_frozen BK135.out 1) | ((with_reducible refine gate_callee (f := 62) rfl ?_); refine goesL_ (some 22) rfl rfl Try.func62 (by kernel_rfl) rfl #[.slice (some ad136) l0_0.length c0_0, .string ((rd_T34 l0_0 x12_1).f0), .func (.func 63) #[] #[]] rfl (by (try simp only [List.map_toArray, List.map_cons, List.map_nil]); first | done | rfl | (simp only [List.length_drop, List.length_take]; rfl)) ?_; (with_reducible refine (api_Change_string.calls _ _ l0_0 ((rd_T34 l0_0 x12_1).f0) t138 t139 _ ?side1 ?side2 A8.out).mono ?_); (case side1 => exact Kd.C_below HR0_0.out (hF HB.out GE137.out)); (case side2 => exact HC0_0.out); rintro e w30 ⟨rfl, hb⟩; refine ⟨_, rfl, ?_⟩; replace BK135 := Aside0.mk (blk_below (bF (BK135.out) NB135_137.out) hb); replace BK137 := Aside0.mk (blk_below (g := gb137) (o := .cells #[.string ((rd_T34 l0_0 x12_1).f0), .bool ((rd_T34 l0_0 x12_1).f1), .int .i64 ((rd_T34 l0_0 x12_1).f2.f0), .int .i64 ((rd_T34 l0_0 x12_1).f2.f1), .int .i64 ((rd_T34 l0_0 x12_1).f2.f2), .string ((rd_T34 l0_0 x12_1).f2.f3)] 34 (0, 0)) (bS (blk_put (bS (blk_put (bS (blk_put (bS (blk_put (bS (blk_put (bS (blk_put (bS BK137.out) 0 _ rfl)) 1 _ rfl)) 2 _ rfl)) 3 _ rfl)) 4 _ rfl)) 5 _ rfl)) hb); replace HB := Aside0.mk (below_step (hF HB.out GE137.out) hb); (try clear hb); (try clear hb2); (try clear hk); (try clear hi)))
       go_ret
       exact ⟨by first | rfl | (simp [errW_none, errW_some] <;> rfl) | (simp [*, errW_none, errW_some] <;> rfl), by repeat (first | (with_reducible first | exact HB.out | apply below_alloc | apply pw_below_drewN | apply below_drew1 | refine below_set ?_ GE135.out | refine below_set ?_ GE137.out) | exact HB.out)⟩
     ·rw [if_neg c7] at H
      exact absurd H (by simp)
    ·rw [if_neg c6] at H
     exact absurd H (by simp)
   ·rw [if_neg c5] at H
    have c5b0 : decide (x12_1 < (l0_0.length : Int)) = false := decide_eq_false c5
    clear c5
    by_cases c31 : (l0_0.length : Int) ≤ a1
    ·rw [if_pos c31] at H
     have c31b0 : decide ((l0_0.length : Int) ≤ a1) = true := decide_eq_true c31
     clear c31
     by_cases c32 : a0_1 = true
     ·subst c32
      have H1 : (some ((l0_0.length : Int) == 0)) = some r := by rw [if_pos rfl] at H; exact H
      clear H
      have H := H1
      clear H1
      obtain rfl := Option.some.inj H
      have hcz33_0 : wr.cell? ⟨gb135, 0, none⟩ = some (.slice A0_0 l0_0.length c0_0) := (blk_cell BK135.out 0).trans rfl
      have hcz33_1 : wr.cell? ⟨gb135, 1, none⟩ = some (.bool true) := (blk_cell BK135.out 1).trans rfl
      have hfz33_0 := blk_frozen BK135.out 0
      have hfz33_1 := blk_frozen BK135.out 1
      go_wp2
      go_ret
      exact ⟨by first | rfl | (simp [errW_none, errW_some] <;> rfl) | (simp [*, errW_none, errW_some] <;> rfl), by repeat (first | (with_reducible first | exact HB.out | apply below_alloc | apply pw_below_drewN | apply below_drew1 | refine below_set ?_ GE135.out) | exact HB.out)⟩
     ·replace c32 := Bool.eq_false_iff.mpr c32
      subst c32
      have H1 : (some true) = some r := by rw [if_neg (show ¬ (false = true) by decide)] at H; exact H
      clear H
      have H := H1
      clear H1
      obtain rfl := Option.some.inj H
      have hcz34_0 : wr.cell? ⟨gb135, 0, none⟩ = some (.slice A0_0 l0_0.length c0_0) := (blk_cell BK135.out 0).trans rfl
      have hcz34_1 : wr.cell? ⟨gb135, 1, none⟩ = some (.bool false) := (blk_cell BK135.out 1).trans rfl
      have hfz34_0 := blk_frozen BK135.out 0
      have hfz34_1 := blk_frozen BK135.out 1
      go_wp2
      go_ret
      exact ⟨by first | rfl | (simp [errW_none, errW_some] <;> rfl) | (simp [*, errW_none, errW_some] <;> rfl), by repeat (first | (with_reducible first | exact HB.out | apply below_alloc | apply pw_below_drewN | apply below_drew1 | refine below_set ?_ GE135.out) | exact HB.out)⟩
    ·rw [if_neg c31] at H
     have c31b0 : decide ((l0_0.length : Int) ≤ a1) = false := decide_eq_false c31
     clear c31
     obtain rfl := Option.some.inj H
     have hcz35_0 : wr.cell? ⟨gb135, 0, none⟩ = some (.slice A0_0 l0_0.length c0_0) := (blk_cell BK135.out 0).trans rfl
     have hcz35_1 : wr.cell? ⟨gb135, 1, none⟩ = some (.bool a0_1) := (blk_cell BK135.out 1).trans rfl
     have hfz35_0 := blk_frozen BK135.out 0
     have hfz35_1 := blk_frozen BK135.out 1
     go_wp2
     go_ret
     exact ⟨by first | rfl | (simp [errW_none, errW_some] <;> rfl) | (simp [*, errW_none, errW_some] <;> rfl), by repeat (first | (with_reducible first | exact HB.out | apply below_alloc | apply pw_below_drewN | apply below_drew1 | refine below_set ?_ GE135.out) | exact HB.out)⟩

/-! ### link_May: function 15 -/
def link_May.j0 : Nat → Bool → Int → Int → Int → Int → Int → List (S34) → Bool → Int → Int → Bool → Int → Option (Bool)
 | 0, _, _, _, _, _, _, _, _, _, _, _, _ => none
 | k + 1, x5, x142000, x142001, x142002, x142003, x143000, x143001, x143002, x143003, x143004, x143005, x143006 => if x5 = true then (some false) else (if x143000 < 0 then (some false) else (if x143000 > 1099511627776 then (some false) else ((queue_May.f k x143001 x143002 x142000).bind fun t146 => (if t146 = true then (if x143002 = true then (some false) else (if x143005 = true then (some ((x143001.length : Int) == 0)) else (some true))) else (some false)))))
def link_May.f (k : Nat) (a0_0 : Int) (a0_1 : Int) (a0_2 : Int) (a0_3 : Int) (a1_0 : Int) (l1_1 : List (S34)) (a1_2 : Bool) (a1_3 : Int) (a1_4 : Int) (a1_5 : Bool) (a1_6 : Int) : Option (Bool) := (pace_May.f a0_0 a0_1 a0_2 a0_3).bind fun t143 => (if t143 = true then (if a1_3 < 0 then (link_May.j0 k (decide (a1_3 < 0)) a0_0 a0_1 a0_2 a0_3 a1_0 l1_1 a1_2 a1_3 a1_4 a1_5 a1_6) else (if a1_3 > a0_1 then (link_May.j0 k (decide (a1_3 > a0_1)) a0_0 a0_1 a0_2 a0_3 a1_0 l1_1 a1_2 a1_3 a1_4 a1_5 a1_6) else ((link_time.f a1_4).bind fun t144 => (if t144 = true then ((link_time.f a1_6).bind fun t145 => (link_May.j0 k (!t145) a0_0 a0_1 a0_2 a0_3 a1_0 l1_1 a1_2 a1_3 a1_4 a1_5 a1_6)) else (link_May.j0 k (!t144) a0_0 a0_1 a0_2 a0_3 a1_0 l1_1 a1_2 a1_3 a1_4 a1_5 a1_6))))) else (link_May.j0 k (!t143) a0_0 a0_1 a0_2 a0_3 a1_0 l1_1 a1_2 a1_3 a1_4 a1_5 a1_6))
set_option maxHeartbeats 8000000 in
set_option maxRecDepth 100000 in
theorem link_May.calls (k : Nat) (c0 c1 c2 c3 s : Int) (A : Option Addr) (cc : Nat) (q : List (S34)) (lat : Bool) (tok at_ : Int) (sn : Bool) (dg : Int) (r : Bool) (w : World) (hr : Kd.C k34 w A q.length q) (hc : q.length ≤ cc) (h : link_May.f k c0 c1 c2 c3 s q lat tok at_ sn dg = some r) :
  Calls Try.prog 15 #[.agg #[.int .i64 c0, .int .i64 c1, .int .i64 c2, .int .i64 c3], .agg #[.int .i64 s, .slice A q.length cc, .bool lat, .int .i64 tok, .int .i64 at_, .bool sn, .int .i64 dg]] w fun e w' => e = .returned (.bool r) ∧ Below w.heap.size w w' := by
 unfold link_May.f at h
 have S := Go.Proofs.Ytmigglldahkngaa.XSt.Kn.start (fun _ => True) w
 replace S := S.arg (d := k34) (e := 0) (show Kd.V k34 0 w 0 (fun _ => True) (.slice A q.length cc) q from ⟨A, cc, rfl, hc, Kd.F_mono (Kd.C_F (show Kd.Heap k34 from ⟨fun _ hK => by obtain rfl := k34_open hK; exact k34_mk _ _⟩) hr) (fun _ _ => trivial)⟩)
 have hm63 : (q.length : Int) ≤ 9223372036854775807 := by have := hr.2.1; omega
 clear hr hc
 obtain ⟨w0, hw0⟩ : ∃ x : World, x = w := ⟨_, rfl⟩
 have HW := Aside0.mk hw0
 clear hw0
 go_enter Try.func15, Try.ntmps15
 go_upto_region 1 with (fail)
 generalize hg : World.alloc _ _ = w1
 replace S := S.new2 hg
 clear hg
 generalize w.heap.size + 1 = p3 at S ⊢
 generalize w.heap.size = p2 at S ⊢
 replace S : Go.Proofs.Ytmigglldahkngaa.XSt.Kn (fun _ => True) w [(p3, .cells #[.int .i64 s, .slice A q.length cc, .bool lat, .int .i64 tok, .int .i64 at_, .bool sn, .int .i64 dg] 30 (0, 0)), (p2, .cells #[.int .i64 c0, .int .i64 c1, .int .i64 c2, .int .i64 c3] 23 (0, 0))] Go.Proofs.Ytmigglldahkngaa.XSt.nil Go.Proofs.Ytmigglldahkngaa.XSt.tt [Go.Proofs.Ytmigglldahkngaa.XSt.V k34 (.slice A q.length cc) q] w1 := S
 rcases hX : pace_May.f c0 c1 c2 c3 with _ | b1
 ·rw [hX] at h; exact absurd h (by simp)
 rw [hX] at h
 simp only [Option.bind_some] at h
 have HX_b1 := Aside0.mk hX
 clear hX
 have c_0 : w1.cell? ⟨p2, 0, none⟩ = some (.int .i64 c0) := S.cell 1 0 rfl rfl
 have c_1 : w1.cell? ⟨p2, 1, none⟩ = some (.int .i64 c1) := S.cell 1 1 rfl rfl
 have c_2 : w1.cell? ⟨p2, 2, none⟩ = some (.int .i64 c2) := S.cell 1 2 rfl rfl
 have c_3 : w1.cell? ⟨p2, 3, none⟩ = some (.int .i64 c3) := S.cell 1 3 rfl rfl
 go_wp2_with fail
 refine (pace_May.calls c0 c1 c2 c3 b1 _ HX_b1.out).mono ?_
 rintro e w2 ⟨rfl, hb⟩
 replace S := S.below (by first | exact hb | exact hb.below)
 clear c_0 c_1 c_2 c_3 hb
 have l_0 : w2.cell? ⟨p3, 0, none⟩ = some (.int .i64 s) := S.cell 0 0 rfl rfl
 have l_1 : w2.cell? ⟨p3, 1, none⟩ = some (.slice A q.length cc) := S.cell 0 1 rfl rfl
 have l_2 : w2.cell? ⟨p3, 2, none⟩ = some (.bool lat) := S.cell 0 2 rfl rfl
 have l_3 : w2.cell? ⟨p3, 3, none⟩ = some (.int .i64 tok) := S.cell 0 3 rfl rfl
 have l_4 : w2.cell? ⟨p3, 4, none⟩ = some (.int .i64 at_) := S.cell 0 4 rfl rfl
 have l_5 : w2.cell? ⟨p3, 5, none⟩ = some (.bool sn) := S.cell 0 5 rfl rfl
 have l_6 : w2.cell? ⟨p3, 6, none⟩ = some (.int .i64 dg) := S.cell 0 6 rfl rfl
 have c_0 : w2.cell? ⟨p2, 0, none⟩ = some (.int .i64 c0) := S.cell 1 0 rfl rfl
 have c_1 : w2.cell? ⟨p2, 1, none⟩ = some (.int .i64 c1) := S.cell 1 1 rfl rfl
 have c_2 : w2.cell? ⟨p2, 2, none⟩ = some (.int .i64 c2) := S.cell 1 2 rfl rfl
 have c_3 : w2.cell? ⟨p2, 3, none⟩ = some (.int .i64 c3) := S.cell 1 3 rfl rfl
 cases b1 with
 | false =>
  rw [if_neg (by simp)] at h
  obtain ⟨k, rfl⟩ : ∃ m, k = m + 1 := by
   cases k with
   | zero => exact absurd h (by simp [link_May.j0])
   | succ m => exact ⟨m, rfl⟩
  rw [link_May.j0] at h
  rw [if_pos (by rfl)] at h
  obtain rfl := Option.some.inj h
  go_wp2
  go_ret
  exact ⟨rfl, S.bel⟩
 | true =>
  rw [if_pos rfl] at h
  by_cases t1 : tok < 0
  ·rw [if_pos t1] at h
   obtain ⟨k, rfl⟩ : ∃ m, k = m + 1 := by
    cases k with
    | zero => exact absurd h (by simp [link_May.j0])
    | succ m => exact ⟨m, rfl⟩
   rw [link_May.j0] at h
   rw [if_pos (decide_eq_true t1)] at h
   obtain rfl := Option.some.inj h
   go_wp2
   go_ret
   exact ⟨rfl, S.bel⟩
  rw [if_neg t1] at h
  by_cases t2 : tok > c1
  ·rw [if_pos t2] at h
   have t3 : c1 < tok := t2
   obtain ⟨k, rfl⟩ : ∃ m, k = m + 1 := by
    cases k with
    | zero => exact absurd h (by simp [link_May.j0])
    | succ m => exact ⟨m, rfl⟩
   rw [link_May.j0] at h
   rw [if_pos (decide_eq_true t2)] at h
   obtain rfl := Option.some.inj h
   go_wp2
   go_ret
   exact ⟨rfl, S.bel⟩
  rw [if_neg t2] at h
  have t1' : 0 ≤ tok := by omega
  have t2' : tok ≤ c1 := by omega
  clear t1 t2
  rcases hX : link_time.f at_ with _ | b2
  ·rw [hX] at h; exact absurd h (by simp)
  rw [hX] at h
  simp only [Option.bind_some] at h
  have HX_b2 := Aside0.mk hX
  clear hX
  go_wp2_with fail
  refine (link_time.calls at_ b2 _ HX_b2.out).mono ?_
  rintro e w3 ⟨rfl, hb⟩
  replace S := S.below (by first | exact hb | exact hb.below)
  clear l_0 l_1 l_2 l_3 l_4 l_5 l_6 c_0 c_1 c_2 c_3 hb
  have l_0 : w3.cell? ⟨p3, 0, none⟩ = some (.int .i64 s) := S.cell 0 0 rfl rfl
  have l_1 : w3.cell? ⟨p3, 1, none⟩ = some (.slice A q.length cc) := S.cell 0 1 rfl rfl
  have l_2 : w3.cell? ⟨p3, 2, none⟩ = some (.bool lat) := S.cell 0 2 rfl rfl
  have l_3 : w3.cell? ⟨p3, 3, none⟩ = some (.int .i64 tok) := S.cell 0 3 rfl rfl
  have l_4 : w3.cell? ⟨p3, 4, none⟩ = some (.int .i64 at_) := S.cell 0 4 rfl rfl
  have l_5 : w3.cell? ⟨p3, 5, none⟩ = some (.bool sn) := S.cell 0 5 rfl rfl
  have l_6 : w3.cell? ⟨p3, 6, none⟩ = some (.int .i64 dg) := S.cell 0 6 rfl rfl
  have c_0 : w3.cell? ⟨p2, 0, none⟩ = some (.int .i64 c0) := S.cell 1 0 rfl rfl
  have c_1 : w3.cell? ⟨p2, 1, none⟩ = some (.int .i64 c1) := S.cell 1 1 rfl rfl
  have c_2 : w3.cell? ⟨p2, 2, none⟩ = some (.int .i64 c2) := S.cell 1 2 rfl rfl
  have c_3 : w3.cell? ⟨p2, 3, none⟩ = some (.int .i64 c3) := S.cell 1 3 rfl rfl
  cases b2 with
  | false =>
   rw [if_neg (by simp)] at h
   obtain ⟨k, rfl⟩ : ∃ m, k = m + 1 := by
    cases k with
    | zero => exact absurd h (by simp [link_May.j0])
    | succ m => exact ⟨m, rfl⟩
   rw [link_May.j0] at h
   rw [if_pos (by rfl)] at h
   obtain rfl := Option.some.inj h
   go_wp2
   go_ret
   exact ⟨rfl, S.bel⟩
  | true =>
   rw [if_pos rfl] at h
   rcases hX : link_time.f dg with _ | b3
   ·rw [hX] at h; exact absurd h (by simp)
   rw [hX] at h
   simp only [Option.bind_some] at h
   have HX_b3 := Aside0.mk hX
   clear hX
   go_wp2_with fail
   refine (link_time.calls dg b3 _ HX_b3.out).mono ?_
   rintro e w4 ⟨rfl, hb⟩
   replace S := S.below (by first | exact hb | exact hb.below)
   clear l_0 l_1 l_2 l_3 l_4 l_5 l_6 c_0 c_1 c_2 c_3 hb
   have l_0 : w4.cell? ⟨p3, 0, none⟩ = some (.int .i64 s) := S.cell 0 0 rfl rfl
   have l_1 : w4.cell? ⟨p3, 1, none⟩ = some (.slice A q.length cc) := S.cell 0 1 rfl rfl
   have l_2 : w4.cell? ⟨p3, 2, none⟩ = some (.bool lat) := S.cell 0 2 rfl rfl
   have l_3 : w4.cell? ⟨p3, 3, none⟩ = some (.int .i64 tok) := S.cell 0 3 rfl rfl
   have l_4 : w4.cell? ⟨p3, 4, none⟩ = some (.int .i64 at_) := S.cell 0 4 rfl rfl
   have l_5 : w4.cell? ⟨p3, 5, none⟩ = some (.bool sn) := S.cell 0 5 rfl rfl
   have l_6 : w4.cell? ⟨p3, 6, none⟩ = some (.int .i64 dg) := S.cell 0 6 rfl rfl
   have c_0 : w4.cell? ⟨p2, 0, none⟩ = some (.int .i64 c0) := S.cell 1 0 rfl rfl
   have c_1 : w4.cell? ⟨p2, 1, none⟩ = some (.int .i64 c1) := S.cell 1 1 rfl rfl
   have c_2 : w4.cell? ⟨p2, 2, none⟩ = some (.int .i64 c2) := S.cell 1 2 rfl rfl
   have c_3 : w4.cell? ⟨p2, 3, none⟩ = some (.int .i64 c3) := S.cell 1 3 rfl rfl
   cases b3 with
   | false =>
    obtain ⟨k, rfl⟩ : ∃ m, k = m + 1 := by
     cases k with
     | zero => exact absurd h (by simp [link_May.j0])
     | succ m => exact ⟨m, rfl⟩
    rw [link_May.j0] at h
    rw [if_pos (by rfl)] at h
    obtain rfl := Option.some.inj h
    go_wp2
    go_ret
    exact ⟨rfl, S.bel⟩
   | true =>
    obtain ⟨k, rfl⟩ : ∃ m, k = m + 1 := by
     cases k with
     | zero => exact absurd h (by simp [link_May.j0])
     | succ m => exact ⟨m, rfl⟩
    rw [link_May.j0] at h
    rw [if_neg (by simp)] at h
    by_cases e1 : s < 0
    ·rw [if_pos e1] at h
     obtain rfl := Option.some.inj h
     go_wp2
     go_ret
     exact ⟨rfl, S.bel⟩
    rw [if_neg e1] at h
    by_cases e2 : s > 1099511627776
    ·rw [if_pos e2] at h
     have e3 : (1099511627776 : Int) < s := e2
     obtain rfl := Option.some.inj h
     go_wp2
     go_ret
     exact ⟨rfl, S.bel⟩
    rw [if_neg e2] at h
    have e1' : 0 ≤ s := by omega
    have e2' : s ≤ 1099511627776 := by omega
    clear e1 e2
    rcases hX : queue_May.f k q lat c0 with _ | b4
    ·rw [hX] at h; exact absurd h (by simp)
    rw [hX] at h
    simp only [Option.bind_some] at h
    have HX_b4 := Aside0.mk hX
    clear hX
    go_wp2_with fail
    refine (queue_May.calls k A cc q lat c0 b4 _ (Kd.V_reads' (e := 0) (base := 0) (S.ft 0 rfl)).2.2 (Kd.V_reads' (e := 0) (base := 0) (S.ft 0 rfl)).2.1 HX_b4.out).mono ?_
    rintro e w5 ⟨rfl, hb⟩
    replace S := S.below hb
    clear l_0 l_1 l_2 l_3 l_4 l_5 l_6 c_0 c_1 c_2 c_3 hb
    have l_0 : w5.cell? ⟨p3, 0, none⟩ = some (.int .i64 s) := S.cell 0 0 rfl rfl
    have l_1 : w5.cell? ⟨p3, 1, none⟩ = some (.slice A q.length cc) := S.cell 0 1 rfl rfl
    have l_2 : w5.cell? ⟨p3, 2, none⟩ = some (.bool lat) := S.cell 0 2 rfl rfl
    have l_3 : w5.cell? ⟨p3, 3, none⟩ = some (.int .i64 tok) := S.cell 0 3 rfl rfl
    have l_4 : w5.cell? ⟨p3, 4, none⟩ = some (.int .i64 at_) := S.cell 0 4 rfl rfl
    have l_5 : w5.cell? ⟨p3, 5, none⟩ = some (.bool sn) := S.cell 0 5 rfl rfl
    have l_6 : w5.cell? ⟨p3, 6, none⟩ = some (.int .i64 dg) := S.cell 0 6 rfl rfl
    cases b4 with
    | false =>
     rw [if_neg (by simp)] at h
     obtain rfl := Option.some.inj h
     go_wp2
     go_ret
     exact ⟨rfl, S.bel⟩
    | true =>
     rw [if_pos rfl] at h
     cases lat with
     | true =>
      rw [if_pos rfl] at h
      obtain rfl := Option.some.inj h
      go_wp2
      go_ret
      exact ⟨rfl, S.bel⟩
     | false =>
      rw [if_neg (by simp)] at h
      cases sn with
      | false =>
       rw [if_neg (by simp)] at h
       obtain rfl := Option.some.inj h
       go_wp2
       go_ret
       exact ⟨rfl, S.bel⟩
      | true =>
       rw [if_pos rfl] at h
       obtain rfl := Option.some.inj h
       go_wp2
       go_ret
       exact ⟨rfl, S.bel⟩
/-! ### queue_Empty: function 46 -/
def queue_Empty.f (l0_0 : List (S34)) (a0_1 : Bool) : Option (Bool) := if (l0_0.length : Int) = 0 then (some (!a0_1)) else (some false)
set_option maxHeartbeats 8000000 in
set_option maxRecDepth 100000 in
theorem queue_Empty.calls (A0_0 : Option Addr) (c0_0 : Nat) (l0_0 : List (S34)) (a0_1 : Bool) (r : Bool) (w : World) (hr0_0 : Kd.C k34 w A0_0 l0_0.length l0_0) (hc0_0 : l0_0.length ≤ c0_0) (h : queue_Empty.f l0_0 a0_1 = some r) :
  Calls Try.prog 46 #[.agg #[.slice A0_0 l0_0.length c0_0, .bool a0_1]] w fun e w' => e = .returned (.bool r) ∧ Below w.heap.size w w' := by
 have hu26 := Try.underlying26
 have HR0_0 := Aside0.mk hr0_0
 have HC0_0 := Aside0.mk hc0_0
 clear hr0_0 hc0_0
 have HB := Aside0.mk (Below.refl w.heap.size w)
 have H : (if (l0_0.length : Int) = 0 then (some (!a0_1)) else (some false)) = some r := h
 clear h
 by_cases c2 : (l0_0.length : Int) = 0
 ·rw [if_pos c2] at H
  have c2b0 : ((l0_0.length : Int) == 0) = true := beq_iff_eq.mpr c2
  have c2b1 : ((l0_0.length : Int) != 0) = false := bne_eq_false_iff_eq.mpr c2
  clear c2
  obtain rfl := Option.some.inj H
  go_enter Try.func46, Try.ntmps46
  go_wp2_with (first | ((with_reducible refine gate_dst (N := 1) rfl ?_); refine box_event ?hg (N := 1) ?hd (cs := #[.slice A0_0 l0_0.length c0_0, .bool a0_1]) (t := 26) ?hr ?_; (case hd => rfl); (case hg => rfl); (case hr => first | (go_simp; done) | (go_simp; rfl)); intro gb147 hg w3 hbox hb; have BK147 := Aside0.mk (hbox); have GW147 := Aside0.mk ((by rw [hg]; exact (below_size (hS HB.out)) : w.heap.size ≤ gb147)); have GE147 := Aside0.mk ((by rw [hg]; exact (below_size (hS HB.out)) : w.heap.size ≤ gb147)); replace HB := Aside0.mk (below_step (hS HB.out) hb); clear hb hbox hg; have hcz4_0 : w3.cell? ⟨gb147, 0, none⟩ = some (.slice A0_0 l0_0.length c0_0) := (blk_cell BK147.out 0).trans rfl; have hcz4_1 : w3.cell? ⟨gb147, 1, none⟩ = some (.bool a0_1) := (blk_cell BK147.out 1).trans rfl; have hfz4_0 := blk_frozen BK147.out 0; have hfz4_1 := blk_frozen BK147.out 1))
  go_ret
  exact ⟨by first | rfl | (simp [errW_none, errW_some] <;> rfl) | (simp [*, errW_none, errW_some] <;> rfl), by repeat (first | (with_reducible first | exact HB.out | apply below_alloc | apply pw_below_drewN | apply below_drew1 | refine below_set ?_ GE147.out) | exact HB.out)⟩
 ·rw [if_neg c2] at H
  have c2b0 : ((l0_0.length : Int) == 0) = false := beq_eq_false_iff_ne.mpr c2
  have c2b1 : ((l0_0.length : Int) != 0) = true := bne_iff_ne.mpr c2
  have c2b2 : ¬ (l0_0 = []) := fun h_ => c2 (by rw [h_]; rfl)
  obtain rfl := Option.some.inj H
  go_enter Try.func46, Try.ntmps46
  go_wp2_with (first | ((with_reducible refine gate_dst (N := 1) rfl ?_); refine box_event ?hg (N := 1) ?hd (cs := #[.slice A0_0 l0_0.length c0_0, .bool a0_1]) (t := 26) ?hr ?_; (case hd => rfl); (case hg => rfl); (case hr => first | (go_simp; done) | (go_simp; rfl)); intro gb147 hg w5 hbox hb; have BK147 := Aside0.mk (hbox); have GW147 := Aside0.mk ((by rw [hg]; exact (below_size (hS HB.out)) : w.heap.size ≤ gb147)); have GE147 := Aside0.mk ((by rw [hg]; exact (below_size (hS HB.out)) : w.heap.size ≤ gb147)); replace HB := Aside0.mk (below_step (hS HB.out) hb); clear hb hbox hg; have hcz6_0 : w5.cell? ⟨gb147, 0, none⟩ = some (.slice A0_0 l0_0.length c0_0) := (blk_cell BK147.out 0).trans rfl; have hcz6_1 : w5.cell? ⟨gb147, 1, none⟩ = some (.bool a0_1) := (blk_cell BK147.out 1).trans rfl; have hfz6_0 := blk_frozen BK147.out 0; have hfz6_1 := blk_frozen BK147.out 1))
  go_ret
  exact ⟨by first | rfl | (simp [errW_none, errW_some] <;> rfl) | (simp [*, errW_none, errW_some] <;> rfl), by repeat (first | (with_reducible first | exact HB.out | apply below_alloc | apply pw_below_drewN | apply below_drew1 | refine below_set ?_ GE147.out) | exact HB.out)⟩

/-! ### link_Quiet: function 17 -/
def link_Quiet.f (a0_0 : Int) (l0_1 : List (S34)) (a0_2 : Bool) (a0_3 : Int) (a0_4 : Int) (a0_5 : Bool) (a0_6 : Int) : Option (Bool) := if a0_5 = true then (some false) else ((queue_Empty.f l0_1 a0_2).bind fun t149 => (some t149))
set_option maxHeartbeats 8000000 in
set_option maxRecDepth 100000 in
theorem link_Quiet.calls (a0_0 : Int) (A0_1 : Option Addr) (c0_1 : Nat) (l0_1 : List (S34)) (a0_2 : Bool) (a0_3 : Int) (a0_4 : Int) (a0_5 : Bool) (a0_6 : Int) (r : Bool) (w : World) (hr0_1 : Kd.C k34 w A0_1 l0_1.length l0_1) (hc0_1 : l0_1.length ≤ c0_1) (h : link_Quiet.f a0_0 l0_1 a0_2 a0_3 a0_4 a0_5 a0_6 = some r) :
  Calls Try.prog 17 #[.agg #[.int .i64 a0_0, .slice A0_1 l0_1.length c0_1, .bool a0_2, .int .i64 a0_3, .int .i64 a0_4, .bool a0_5, .int .i64 a0_6]] w fun e w' => e = .returned (.bool r) ∧ Below w.heap.size w w' := by
 have hu30 := Try.underlying30
 have hu26 := Try.underlying26
 have HR0_1 := Aside0.mk hr0_1
 have HC0_1 := Aside0.mk hc0_1
 clear hr0_1 hc0_1
 have HB := Aside0.mk (Below.refl w.heap.size w)
 have H : (if a0_5 = true then (some false) else ((queue_Empty.f l0_1 a0_2).bind fun t149 => (some t149))) = some r := h
 clear h
 by_cases c2 : a0_5 = true
 ·subst c2
  have H1 : (some false) = some r := by rw [if_pos rfl] at H; exact H
  clear H
  have H := H1
  clear H1
  obtain rfl := Option.some.inj H
  go_enter Try.func17, Try.ntmps17
  go_wp2_with (first | ((with_reducible refine gate_dst (N := 1) rfl ?_); refine box_event ?hg (N := 1) ?hd (cs := #[.int .i64 a0_0, .slice A0_1 l0_1.length c0_1, .bool a0_2, .int .i64 a0_3, .int .i64 a0_4, .bool true, .int .i64 a0_6]) (t := 30) ?hr ?_; (case hd => rfl); (case hg => rfl); (case hr => first | (go_simp; done) | (go_simp; rfl)); intro gb148 hg w3 hbox hb; have BK148 := Aside0.mk (hbox); have GW148 := Aside0.mk ((by rw [hg]; exact (below_size (hS HB.out)) : w.heap.size ≤ gb148)); have GE148 := Aside0.mk ((by rw [hg]; exact (below_size (hS HB.out)) : w.heap.size ≤ gb148)); replace HB := Aside0.mk (below_step (hS HB.out) hb); clear hb hbox hg; have hcz4_0 : w3.cell? ⟨gb148, 0, none⟩ = some (.int .i64 a0_0) := (blk_cell BK148.out 0).trans rfl; have hcz4_1 : w3.cell? ⟨gb148, 1, none⟩ = some (.slice A0_1 l0_1.length c0_1) := (blk_cell BK148.out 1).trans rfl; have hcz4_2 : w3.cell? ⟨gb148, 2, none⟩ = some (.bool a0_2) := (blk_cell BK148.out 2).trans rfl; have hcz4_3 : w3.cell? ⟨gb148, 3, none⟩ = some (.int .i64 a0_3) := (blk_cell BK148.out 3).trans rfl; have hcz4_4 : w3.cell? ⟨gb148, 4, none⟩ = some (.int .i64 a0_4) := (blk_cell BK148.out 4).trans rfl; have hcz4_5 : w3.cell? ⟨gb148, 5, none⟩ = some (.bool true) := (blk_cell BK148.out 5).trans rfl; have hcz4_6 : w3.cell? ⟨gb148, 6, none⟩ = some (.int .i64 a0_6) := (blk_cell BK148.out 6).trans rfl; have hfz4_0 := blk_frozen BK148.out 0; have hfz4_1 := blk_frozen BK148.out 1; have hfz4_2 := blk_frozen BK148.out 2; have hfz4_3 := blk_frozen BK148.out 3; have hfz4_4 := blk_frozen BK148.out 4; have hfz4_5 := blk_frozen BK148.out 5; have hfz4_6 := blk_frozen BK148.out 6))
  go_ret
  exact ⟨by first | rfl | (simp [errW_none, errW_some] <;> rfl) | (simp [*, errW_none, errW_some] <;> rfl), by repeat (first | (with_reducible first | exact HB.out | apply below_alloc | apply pw_below_drewN | apply below_drew1 | refine below_set ?_ GE148.out) | exact HB.out)⟩
 ·replace c2 := Bool.eq_false_iff.mpr c2
  subst c2
  have H1 : ((queue_Empty.f l0_1 a0_2).bind fun t149 => (some t149)) = some r := by rw [if_neg (show ¬ (false = true) by decide)] at H; exact H
  clear H
  have H := H1
  clear H1
  replace H := Option.bind_eq_some_iff.mp H
  obtain ⟨t149, A50, H⟩ := H
  replace H : (some t149) = some r := H
  have A5 := Aside0.mk A50
  clear A50
  obtain rfl := Option.some.inj H
  go_enter Try.func17, Try.ntmps17
  go_wp2_with (first | ((with_reducible refine gate_dst (N := 1) rfl ?_); refine box_event ?hg (N := 1) ?hd (cs := #[.int .i64 a0_0, .slice A0_1 l0_1.length c0_1, .bool a0_2, .int .i64 a0_3, .int .i64 a0_4, .bool false, .int .i64 a0_6]) (t := 30) ?hr ?_; (case hd => rfl); (case hg => rfl); (case hr => first | (go_simp; done) | (go_simp; rfl)); intro gb148 hg w6 hbox hb; have BK148 := Aside0.mk (hbox); have GW148 := Aside0.mk ((by rw [hg]; exact (below_size (hS HB.out)) : w.heap.size ≤ gb148)); have GE148 := Aside0.mk ((by rw [hg]; exact (below_size (hS HB.out)) : w.heap.size ≤ gb148)); replace HB := Aside0.mk (below_step (hS HB.out) hb); clear hb hbox hg; have hcz7_0 : w6.cell? ⟨gb148, 0, none⟩ = some (.int .i64 a0_0) := (blk_cell BK148.out 0).trans rfl; have hcz7_1 : w6.cell? ⟨gb148, 1, none⟩ = some (.slice A0_1 l0_1.length c0_1) := (blk_cell BK148.out 1).trans rfl; have hcz7_2 : w6.cell? ⟨gb148, 2, none⟩ = some (.bool a0_2) := (blk_cell BK148.out 2).trans rfl; have hcz7_3 : w6.cell? ⟨gb148, 3, none⟩ = some (.int .i64 a0_3) := (blk_cell BK148.out 3).trans rfl; have hcz7_4 : w6.cell? ⟨gb148, 4, none⟩ = some (.int .i64 a0_4) := (blk_cell BK148.out 4).trans rfl; have hcz7_5 : w6.cell? ⟨gb148, 5, none⟩ = some (.bool false) := (blk_cell BK148.out 5).trans rfl; have hcz7_6 : w6.cell? ⟨gb148, 6, none⟩ = some (.int .i64 a0_6) := (blk_cell BK148.out 6).trans rfl; have hfz7_0 := blk_frozen BK148.out 0; have hfz7_1 := blk_frozen BK148.out 1; have hfz7_2 := blk_frozen BK148.out 2; have hfz7_3 := blk_frozen BK148.out 3; have hfz7_4 := blk_frozen BK148.out 4; have hfz7_5 := blk_frozen BK148.out 5; have hfz7_6 := blk_frozen BK148.out 6) | (go_at_call 46; (with_reducible refine (queue_Empty.calls _ _ l0_1 a0_2 t149 _ ?side1 ?side2 A5.out).mono ?_); (case side1 => repeat (first | exact (Kd.C_below HR0_1.out HB.out) | (with_reducible refine Kd.C_alloc ?_ _) | (with_reducible refine Kd.C_drewN ?_ _) | (with_reducible refine Kd.C_drew ?_))); (case side2 => exact HC0_1.out); rintro e w8 ⟨rfl, hb⟩; replace BK148 := Aside0.mk (blk_below (bS BK148.out) hb); replace HB := Aside0.mk (below_step (hS HB.out) hb); (try clear hb); (try clear hb2); (try clear hk); (try clear hi)))
  go_ret
  exact ⟨by first | rfl | (simp [errW_none, errW_some] <;> rfl) | (simp [*, errW_none, errW_some] <;> rfl), by repeat (first | (with_reducible first | exact HB.out | apply below_alloc | apply pw_below_drewN | apply below_drew1 | refine below_set ?_ GE148.out) | exact HB.out)⟩

/-! ### link_Ask: function 21 -/
def link_Ask.f (a0_0 : Int) (l0_1 : List (S34)) (a0_2 : Bool) (a0_3 : Int) (a0_4 : Int) (a0_5 : Bool) (a0_6 : Int) : Option (Int × (List (S34)) × Bool × Int × Int × Bool × Int) := some (a0_0, ([] : List (S34)), false, a0_3, a0_4, true, a0_6)
set_option maxHeartbeats 8000000 in
set_option maxRecDepth 100000 in
theorem link_Ask.calls (a0_0 : Int) (A0_1 : Option Addr) (c0_1 : Nat) (l0_1 : List (S34)) (a0_2 : Bool) (a0_3 : Int) (a0_4 : Int) (a0_5 : Bool) (a0_6 : Int) (r1 : Int) (r2 : List (S34)) (r3 : Bool) (r4 : Int) (r5 : Int) (r6 : Bool) (r7 : Int) (w : World) (hr0_1 : Kd.C k34 w A0_1 l0_1.length l0_1) (hc0_1 : l0_1.length ≤ c0_1) (h : link_Ask.f a0_0 l0_1 a0_2 a0_3 a0_4 a0_5 a0_6 = some (r1, r2, r3, r4, r5, r6, r7)) :
  Calls Try.prog 21 #[.agg #[.int .i64 a0_0, .slice A0_1 l0_1.length c0_1, .bool a0_2, .int .i64 a0_3, .int .i64 a0_4, .bool a0_5, .int .i64 a0_6]] w fun e w' => ∃ v1_ : Value, e = .returned (.agg #[.int .i64 r1, v1_, .bool r3, .int .i64 r4, .int .i64 r5, .bool r6, .int .i64 r7]) ∧ Kd.R k34 34 w' w.heap.size (fun _ => True) v1_ r2 ∧ Below w.heap.size w w' := by
 have hu30 := Try.underlying30
 have hu26 := Try.underlying26
 have HR0_1 := Aside0.mk hr0_1
 have HC0_1 := Aside0.mk hc0_1
 clear hr0_1 hc0_1
 have HB := Aside0.mk (Below.refl w.heap.size w)
 have H : (some (a0_0, ([] : List (S34)), false, a0_3, a0_4, true, a0_6)) = some (r1, r2, r3, r4, r5, r6, r7) := h
 clear h
 simp only [Option.some.injEq, Prod.mk.injEq] at H
 obtain ⟨rfl, rfl, rfl, rfl, rfl, rfl, rfl⟩ := H
 go_enter Try.func21, Try.ntmps21
 go_wp2_with (first | ((with_reducible refine gate_dst (N := 1) rfl ?_); refine box_event ?hg (N := 1) ?hd (cs := #[.int .i64 a0_0, .slice A0_1 l0_1.length c0_1, .bool a0_2, .int .i64 a0_3, .int .i64 a0_4, .bool a0_5, .int .i64 a0_6]) (t := 30) ?hr ?_; (case hd => rfl); (case hg => rfl); (case hr => first | (go_simp; done) | (go_simp; rfl)); intro gb150 hg w2 hbox hb; have BK150 := Aside0.mk (hbox); have GW150 := Aside0.mk ((by rw [hg]; exact (below_size (hS HB.out)) : w.heap.size ≤ gb150)); have GE150 := Aside0.mk ((by rw [hg]; exact (below_size (hS HB.out)) : w.heap.size ≤ gb150)); replace HB := Aside0.mk (below_step (hS HB.out) hb); clear hb hbox hg) | ((with_reducible refine gate_dst (N := 2) rfl ?_); refine box_event ?hg (N := 2) ?hd (cs := #[.int .i64 0, .slice none 0 0, .bool false, .int .i64 0, .int .i64 0, .bool false, .int .i64 0]) (t := 30) ?hr ?_; (case hd => rfl); (case hg => rfl); (case hr => first | (go_simp; done) | (go_simp; rfl)); intro gb151 hg w3 hbox hb; have BK151 := Aside0.mk (hbox); have GW151 := Aside0.mk ((by rw [hg]; exact (below_size (hS HB.out)) : w.heap.size ≤ gb151)); have GE151 := Aside0.mk ((by rw [hg]; exact (below_size (hS HB.out)) : w.heap.size ≤ gb151)); replace HB := Aside0.mk (below_step (hS HB.out) hb); have NB150_151 := Aside0.mk ((by rw [hg]; exact Nat.ne_of_lt (blk_lt (bS BK150.out)) : gb150 ≠ gb151)); have NB151_150 := Aside0.mk ((by rw [hg]; exact Nat.ne_of_gt (blk_lt (bS BK150.out)) : gb151 ≠ gb150)); replace BK150 := Aside0.mk (blk_below (bS BK150.out) hb); clear hb hbox hg; have hnb4 := NB150_151.out; have hnc4 := NB151_150.out; have hcz5_0 : w3.cell? ⟨gb150, 0, none⟩ = some (.int .i64 a0_0) := (blk_cell BK150.out 0).trans rfl; have hcz5_1 : w3.cell? ⟨gb150, 1, none⟩ = some (.slice A0_1 l0_1.length c0_1) := (blk_cell BK150.out 1).trans rfl; have hcz5_2 : w3.cell? ⟨gb150, 2, none⟩ = some (.bool a0_2) := (blk_cell BK150.out 2).trans rfl; have hcz5_3 : w3.cell? ⟨gb150, 3, none⟩ = some (.int .i64 a0_3) := (blk_cell BK150.out 3).trans rfl; have hcz5_4 : w3.cell? ⟨gb150, 4, none⟩ = some (.int .i64 a0_4) := (blk_cell BK150.out 4).trans rfl; have hcz5_5 : w3.cell? ⟨gb150, 5, none⟩ = some (.bool a0_5) := (blk_cell BK150.out 5).trans rfl; have hcz5_6 : w3.cell? ⟨gb150, 6, none⟩ = some (.int .i64 a0_6) := (blk_cell BK150.out 6).trans rfl; have hfz5_0 := blk_frozen BK150.out 0; have hfz5_1 := blk_frozen BK150.out 1; have hfz5_2 := blk_frozen BK150.out 2; have hfz5_3 := blk_frozen BK150.out 3; have hfz5_4 := blk_frozen BK150.out 4; have hfz5_5 := blk_frozen BK150.out 5; have hfz5_6 := blk_frozen BK150.out 6; have hcz6_0 : w3.cell? ⟨gb151, 0, none⟩ = some (.int .i64 0) := (blk_cell BK151.out 0).trans rfl; have hcz6_1 : w3.cell? ⟨gb151, 1, none⟩ = some (.slice none 0 0) := (blk_cell BK151.out 1).trans rfl; have hcz6_2 : w3.cell? ⟨gb151, 2, none⟩ = some (.bool false) := (blk_cell BK151.out 2).trans rfl; have hcz6_3 : w3.cell? ⟨gb151, 3, none⟩ = some (.int .i64 0) := (blk_cell BK151.out 3).trans rfl; have hcz6_4 : w3.cell? ⟨gb151, 4, none⟩ = some (.int .i64 0) := (blk_cell BK151.out 4).trans rfl; have hcz6_5 : w3.cell? ⟨gb151, 5, none⟩ = some (.bool false) := (blk_cell BK151.out 5).trans rfl; have hcz6_6 : w3.cell? ⟨gb151, 6, none⟩ = some (.int .i64 0) := (blk_cell BK151.out 6).trans rfl; have hfz6_0 := blk_frozen BK151.out 0; have hfz6_1 := blk_frozen BK151.out 1; have hfz6_2 := blk_frozen BK151.out 2; have hfz6_3 := blk_frozen BK151.out 3; have hfz6_4 := blk_frozen BK151.out 4; have hfz6_5 := blk_frozen BK151.out 5; have hfz6_6 := blk_frozen BK151.out 6))
 refine bodyPost_ret (results_cell_row rfl _ _ gb151 30 #[.int .i64 a0_0, .slice none 0 0, .bool false, .int .i64 a0_3, .int .i64 a0_4, .bool true, .int .i64 a0_6] (0, 0) _ rfl (bS (blk_put (bS (blk_put (bS (blk_put (bS (blk_put (bS (blk_put (bS (blk_put (bS (blk_put (bF (BK151.out) NB151_150.out) 0 _ rfl)) 1 _ rfl)) 2 _ rfl)) 3 _ rfl)) 4 _ rfl)) 5 _ rfl)) 6 _ rfl)) Try.underlying30 rfl (by kernel_rfl)) rfl ?_
 exact ⟨_, by first | rfl | (simp [errW_none, errW_some] <;> rfl) | (simp [*, errW_none, errW_some] <;> rfl), by first | exact Kd.R_nil _ _ _ _ _ | exact Kd.N_nil _ _ _ _ _ | exact Kd.V_nil _ _ _ _ _ | exact Kd.Q_nil _ _ _ _ _ | exact Kd.S_nil _ _ _ _ _, by repeat (first | (with_reducible first | exact HB.out | apply below_alloc | apply pw_below_drewN | apply below_drew1 | refine below_set ?_ GE150.out | refine below_set ?_ GE151.out) | exact HB.out)⟩

/-! ### api_Change_66: function 66 -/
abbrev api_Change_66.f := @Go.Proofs.Ytmigglldahkngaa.XCloneChg.slices_Clone.f
set_option maxHeartbeats 1000000 in
theorem api_Change_66.calls (A0 : Option Addr) (c0 : Nat) (l0 : List (S34)) (r : List (S34)) (w : World) (hr0 : Kd.C k34 w A0 l0.length l0) (hc0 : l0.length ≤ c0) (h : api_Change_66.f l0 = some r) :
  Calls Try.prog 66 #[.slice A0 l0.length c0] w fun e w' => ∃ v0_ : Value, e = .returned (v0_) ∧ Kd.R k34 34 w' w.heap.size (fun _ => True) v0_ r ∧ Below w.heap.size w w' := Go.Proofs.Ytmigglldahkngaa.XCloneChg.slices_Clone.calls A0 c0 l0 r w hr0 hc0 h

/-! ### api_Change_67: function 67 -/
abbrev api_Change_67.f := @Go.Proofs.Ytmigglldahkngaa.XConcatChg.slices_Concat.f
set_option maxHeartbeats 1000000 in
theorem api_Change_67.calls (A0 : Option Addr) (c0 : Nat) (l0 : List (List (S34))) (r : List (S34)) (w : World) (hr0 : Kd.C (Kd.slice 34 k34) w A0 l0.length l0) (hc0 : l0.length ≤ c0) (h : api_Change_67.f l0 = some r) :
  Calls Try.prog 67 #[.slice A0 l0.length c0] w fun e w' => ∃ v0_ : Value, e = .returned (v0_) ∧ Kd.R k34 34 w' w.heap.size (fun _ => True) v0_ r ∧ Below w.heap.size w w' := Go.Proofs.Ytmigglldahkngaa.XConcatChg.slices_Concat.calls A0 c0 l0 r w hr0 hc0 h

end Go.Proofs.Ytmigglldahkngaa.PA
end

section
-- Written by a program of this session (wip/tools/xprint.py), which drives the kit's print.
namespace Go.Proofs.Ytmigglldahkngaa.PA
open Go.RowKit Go.Proofs.YtmigglldahkngaaW.PrintWords Go.Proofs.YtmigglldahkngaaW.PrintLast Go.Proofs.YtmigglldahkngaaW.PrintMore
attribute [local go_sem] max2_int min2_int max_two min_two   -- for this text's walks alone
set_option linter.unusedVariables false
set_option linter.unusedSimpArgs false

/-! ### queue_Push: function 48 -/
def queue_Push.f (l0_0 : List (S34)) (a0_1 : Bool) (a1_0 : ByteArray) (a1_1 : Bool) (a1_2 : Int) (a1_3 : Int) (a1_4 : Int) (a1_5 : ByteArray) (a2 : Int) : Option ((List (S34)) × Bool) := if a0_1 = true then (some (l0_0, a0_1)) else ((api_Change_string.f l0_0 a1_0).bind fun bt155 => (if bt155.2 = true then ((api_Change_66.f l0_0).bind fun t157 => (if 0 ≤ bt155.1 then (if bt155.1 < (t157.length : Int) then (some ((t157.set (bt155.1 : Int).toNat (⟨a1_0, a1_1, (⟨a1_2, a1_3, a1_4, a1_5⟩ : S32)⟩ : S34)), a0_1)) else (none)) else (none))) else (if (l0_0.length : Int) < a2 then ((api_Change_67.f (([l0_0, (([(⟨a1_0, a1_1, (⟨a1_2, a1_3, a1_4, a1_5⟩ : S32)⟩ : S34)] : List (S34)))] : List (List (S34))))).bind fun t167 => (some (t167, a0_1))) else (some (([] : List (S34)), true)))))
set_option maxHeartbeats 8000000 in
set_option maxRecDepth 100000 in
theorem queue_Push.calls (P0_0_ : Nat → Prop) (A0_0 : Option Addr) (c0_0 : Nat) (l0_0 : List (S34)) (a0_1 : Bool) (a1_0 : ByteArray) (a1_1 : Bool) (a1_2 : Int) (a1_3 : Int) (a1_4 : Int) (a1_5 : ByteArray) (a2 : Int) (r1 : List (S34)) (r2 : Bool) (w : World) (hs0_0 : Kd.V k34 34 w w.heap.size (fun k_ => P0_0_ k_) (.slice A0_0 l0_0.length c0_0) l0_0) (h : queue_Push.f l0_0 a0_1 a1_0 a1_1 a1_2 a1_3 a1_4 a1_5 a2 = some (r1, r2)) :
  Calls Try.prog 48 #[.agg #[.slice A0_0 l0_0.length c0_0, .bool a0_1], .agg #[.string a1_0, .bool a1_1, .int .i64 a1_2, .int .i64 a1_3, .int .i64 a1_4, .string a1_5], .int .i64 a2] w fun e w' => ∃ v0_ : Value, e = .returned (.agg #[v0_, .bool r2]) ∧ Kd.V k34 34 w' w.heap.size (fun k_ => (P0_0_ k_ ∨ w.heap.size ≤ k_)) v0_ r1 ∧ Below w.heap.size w w' := by
 have hu26 := Try.underlying26
 have hu34 := Try.underlying34
 have HO0_0 := Aside0.mk (show Kd.V k34 34 w w.heap.size (fun k_ => (P0_0_ k_ ∨ w.heap.size ≤ k_)) (.slice A0_0 l0_0.length c0_0) l0_0 from Kd.V_mono hs0_0 (fun k_ hk => .inl hk))
 have HB := Aside0.mk (Below.refl w.heap.size w)
 have H : (if a0_1 = true then (some (l0_0, a0_1)) else ((api_Change_string.f l0_0 a1_0).bind fun bt155 => (if bt155.2 = true then ((api_Change_66.f l0_0).bind fun t157 => (if 0 ≤ bt155.1 then (if bt155.1 < (t157.length : Int) then (some ((t157.set (bt155.1 : Int).toNat (⟨a1_0, a1_1, (⟨a1_2, a1_3, a1_4, a1_5⟩ : S32)⟩ : S34)), a0_1)) else (none)) else (none))) else (if (l0_0.length : Int) < a2 then ((api_Change_67.f (([l0_0, (([(⟨a1_0, a1_1, (⟨a1_2, a1_3, a1_4, a1_5⟩ : S32)⟩ : S34)] : List (S34)))] : List (List (S34))))).bind fun t167 => (some (t167, a0_1))) else (some (([] : List (S34)), true)))))) = some (r1, r2) := h
 clear h
 by_cases c4 : a0_1 = true
 ·subst c4
  have H1 : (some (l0_0, true)) = some (r1, r2) := by rw [if_pos rfl] at H; exact H
  clear H
  have H := H1
  clear H1
  simp only [Option.some.injEq, Prod.mk.injEq] at H
  obtain ⟨rfl, rfl⟩ := H
  go_enter Try.func48, Try.ntmps48
  go_wp2_with (first | ((with_reducible refine gate_dst (N := 3) rfl ?_); refine box_event ?hg (N := 3) ?hd (cs := #[.slice A0_0 l0_0.length c0_0, .bool true]) (t := 26) ?hr ?_; (case hd => rfl); (case hg => rfl); (case hr => first | (go_simp; done) | (go_simp; rfl)); intro gb152 hg w5 hbox hb; replace HO0_0 := Aside0.mk (Kd.V_below (Kd.V_elderB (vS HO0_0.out) gb152 (Nat.le_of_eq hg.symm)) hb); have BK152 := Aside0.mk (hbox); have GW152 := Aside0.mk ((by rw [hg]; exact (below_size (hS HB.out)) : w.heap.size ≤ gb152)); have GE152 := Aside0.mk ((by rw [hg]; exact (below_size (hS HB.out)) : w.heap.size ≤ gb152)); replace HB := Aside0.mk (below_step (hS HB.out) hb); clear hb hbox hg) | ((with_reducible refine gate_dst (N := 4) rfl ?_); refine box_event ?hg (N := 4) ?hd (cs := #[.string a1_0, .bool a1_1, .int .i64 a1_2, .int .i64 a1_3, .int .i64 a1_4, .string a1_5]) (t := 34) ?hr ?_; (case hd => rfl); (case hg => rfl); (case hr => first | (go_simp; done) | (go_simp; rfl)); intro gb153 hg w6 hbox hb; replace HO0_0 := Aside0.mk (Kd.V_below (Kd.V_elderB (vS HO0_0.out) gb153 (Nat.le_of_eq hg.symm)) hb); have BK153 := Aside0.mk (hbox); have GW153 := Aside0.mk ((by rw [hg]; exact (below_size (hS HB.out)) : w.heap.size ≤ gb153)); have GE153 := Aside0.mk ((by rw [hg]; exact (below_size (hS HB.out)) : w.heap.size ≤ gb153)); replace HB := Aside0.mk (below_step (hS HB.out) hb); have NB152_153 := Aside0.mk ((by rw [hg]; exact Nat.ne_of_lt (blk_lt (bS BK152.out)) : gb152 ≠ gb153)); have NB153_152 := Aside0.mk ((by rw [hg]; exact Nat.ne_of_gt (blk_lt (bS BK152.out)) : gb153 ≠ gb152)); replace BK152 := Aside0.mk (blk_below (bS BK152.out) hb); clear hb hbox hg) | ((with_reducible refine gate_dst (N := 6) rfl ?_); refine box_event ?hg (N := 6) ?hd (cs := #[.slice none 0 0, .bool false]) (t := 26) ?hr ?_; (case hd => rfl); (case hg => rfl); (case hr => first | (go_simp; done) | (go_simp; rfl)); intro gb154 hg w7 hbox hb; replace HO0_0 := Aside0.mk (Kd.V_below (Kd.V_elderB (vS HO0_0.out) gb154 (Nat.le_of_eq hg.symm)) hb); have BK154 := Aside0.mk (hbox); have GW154 := Aside0.mk ((by rw [hg]; exact (below_size (hS HB.out)) : w.heap.size ≤ gb154)); have GE154 := Aside0.mk ((by rw [hg]; exact (below_size (hS HB.out)) : w.heap.size ≤ gb154)); replace HB := Aside0.mk (below_step (hS HB.out) hb); have NB152_154 := Aside0.mk ((by rw [hg]; exact Nat.ne_of_lt (blk_lt (bS BK152.out)) : gb152 ≠ gb154)); have NB154_152 := Aside0.mk ((by rw [hg]; exact Nat.ne_of_gt (blk_lt (bS BK152.out)) : gb154 ≠ gb152)); replace BK152 := Aside0.mk (blk_below (bS BK152.out) hb); have NB153_154 := Aside0.mk ((by rw [hg]; exact Nat.ne_of_lt (blk_lt (bS BK153.out)) : gb153 ≠ gb154)); have NB154_153 := Aside0.mk ((by rw [hg]; exact Nat.ne_of_gt (blk_lt (bS BK153.out)) : gb154 ≠ gb153)); replace BK153 := Aside0.mk (blk_below (bS BK153.out) hb); clear hb hbox hg; have hnb8 := NB152_153.out; have hnc8 := NB153_152.out; have hnb9 := NB152_154.out; have hnc9 := NB154_152.out; have hcz10_0 : w7.cell? ⟨gb152, 0, none⟩ = some (.slice A0_0 l0_0.length c0_0) := (blk_cell BK152.out 0).trans rfl; have hcz10_1 : w7.cell? ⟨gb152, 1, none⟩ = some (.bool true) := (blk_cell BK152.out 1).trans rfl; have hfz10_0 := blk_frozen BK152.out 0; have hfz10_1 := blk_frozen BK152.out 1; have hnb11 := NB154_153.out; have hnc11 := NB153_154.out; have hcz12_0 : w7.cell? ⟨gb154, 0, none⟩ = some (.slice none 0 0) := (blk_cell BK154.out 0).trans rfl; have hcz12_1 : w7.cell? ⟨gb154, 1, none⟩ = some (.bool false) := (blk_cell BK154.out 1).trans rfl; have hfz12_0 := blk_frozen BK154.out 0; have hfz12_1 := blk_frozen BK154.out 1))
  refine bodyPost_ret (results_cell_row rfl _ _ gb154 26 #[.slice A0_0 l0_0.length c0_0, .bool true] (0, 0) _ rfl (bS (blk_put (bS (blk_put (bS BK154.out) 0 _ rfl)) 1 _ rfl)) Try.underlying26 rfl (by kernel_rfl)) rfl ?_
  exact ⟨_, by first | rfl | (simp [errW_none, errW_some] <;> rfl) | (simp [*, errW_none, errW_some] <;> rfl), by (with_reducible repeat (first | apply Kd.V_alloc | apply Kd.V_drewN | apply Kd.V_drew)); exact Kd.V_mono (vF (b := gb154) (Kd.V_mono HO0_0.out (fun k_ hk => (⟨hk, hk.2⟩ : _ ∧ k_ ≠ gb154))) (fun _ hk => hk.2)) (fun _ hk => hk.1.1.1.1), by repeat (first | (with_reducible first | exact HB.out | apply below_alloc | apply pw_below_drewN | apply below_drew1 | refine below_set ?_ GE152.out | refine below_set ?_ GE153.out | refine below_set ?_ GE154.out) | exact HB.out)⟩
 ·replace c4 := Bool.eq_false_iff.mpr c4
  subst c4
  have H1 : ((api_Change_string.f l0_0 a1_0).bind fun bt155 => (if bt155.2 = true then ((api_Change_66.f l0_0).bind fun t157 => (if 0 ≤ bt155.1 then (if bt155.1 < (t157.length : Int) then (some ((t157.set (bt155.1 : Int).toNat (⟨a1_0, a1_1, (⟨a1_2, a1_3, a1_4, a1_5⟩ : S32)⟩ : S34)), false)) else (none)) else (none))) else (if (l0_0.length : Int) < a2 then ((api_Change_67.f (([l0_0, (([(⟨a1_0, a1_1, (⟨a1_2, a1_3, a1_4, a1_5⟩ : S32)⟩ : S34)] : List (S34)))] : List (List (S34))))).bind fun t167 => (some (t167, false))) else (some (([] : List (S34)), true))))) = some (r1, r2) := by rw [if_neg (show ¬ (false = true) by decide)] at H; exact H
  clear H
  have H := H1
  clear H1
  replace H := Option.bind_eq_some_iff.mp H
  obtain ⟨⟨t155, t156⟩, A130, H⟩ := H
  replace H : (if t156 = true then ((api_Change_66.f l0_0).bind fun t157 => (if 0 ≤ t155 then (if t155 < (t157.length : Int) then (some ((t157.set (t155 : Int).toNat (⟨a1_0, a1_1, (⟨a1_2, a1_3, a1_4, a1_5⟩ : S32)⟩ : S34)), false)) else (none)) else (none))) else (if (l0_0.length : Int) < a2 then ((api_Change_67.f (([l0_0, (([(⟨a1_0, a1_1, (⟨a1_2, a1_3, a1_4, a1_5⟩ : S32)⟩ : S34)] : List (S34)))] : List (List (S34))))).bind fun t167 => (some (t167, false))) else (some (([] : List (S34)), true)))) = some (r1, r2) := H
  have A13 := Aside0.mk A130
  clear A130
  by_cases c14 : t156 = true
  ·subst c14
   have H1 : ((api_Change_66.f l0_0).bind fun t157 => (if 0 ≤ t155 then (if t155 < (t157.length : Int) then (some ((t157.set (t155 : Int).toNat (⟨a1_0, a1_1, (⟨a1_2, a1_3, a1_4, a1_5⟩ : S32)⟩ : S34)), false)) else (none)) else (none))) = some (r1, r2) := by rw [if_pos rfl] at H; exact H
   clear H
   have H := H1
   clear H1
   replace H := Option.bind_eq_some_iff.mp H
   obtain ⟨t157, A150, H⟩ := H
   replace H : (if 0 ≤ t155 then (if t155 < (t157.length : Int) then (some ((t157.set (t155 : Int).toNat (⟨a1_0, a1_1, (⟨a1_2, a1_3, a1_4, a1_5⟩ : S32)⟩ : S34)), false)) else (none)) else (none)) = some (r1, r2) := H
   have A15 := Aside0.mk A150
   clear A150
   by_cases c16 : 0 ≤ t155
   ·rw [if_pos c16] at H
    have c16b0 : decide (0 ≤ t155) = true := decide_eq_true c16
    clear c16
    by_cases c17 : t155 < (t157.length : Int)
    ·rw [if_pos c17] at H
     have c17b0 : decide (t155 < (t157.length : Int)) = true := decide_eq_true c17
     clear c17
     obtain ⟨y160, hy160⟩ : ∃ y_ : List (S34), y_ = (t157.set (t155 : Int).toNat (⟨a1_0, a1_1, (⟨a1_2, a1_3, a1_4, a1_5⟩ : S32)⟩ : S34)) := ⟨_, rfl⟩
     replace H : (some (y160, false)) = some (r1, r2) := by first | (rw [hy160]; with_reducible exact H) | (have H2_ := (Option.bind_some _ _).symm.trans H; rw [hy160]; with_reducible exact H2_) | (have H2_ := (Option.bind_some _ _).symm.trans H; with_reducible exact H2_) | with_reducible exact H | (rw [hy160]; exact H) | exact H
     have Ny160 := Aside0.mk hy160
     clear hy160
     simp only [Option.some.injEq, Prod.mk.injEq] at H
     obtain ⟨rfl, rfl⟩ := H
     go_enter Try.func48, Try.ntmps48
     go_wp2_with (first | ((with_reducible refine gate_dst (N := 3) rfl ?_); refine box_event ?hg (N := 3) ?hd (cs := #[.slice A0_0 l0_0.length c0_0, .bool false]) (t := 26) ?hr ?_; (case hd => rfl); (case hg => rfl); (case hr => first | (go_simp; done) | (go_simp; rfl)); intro gb152 hg w19 hbox hb; replace HO0_0 := Aside0.mk (Kd.V_below (Kd.V_elderB (vS HO0_0.out) gb152 (Nat.le_of_eq hg.symm)) hb); have BK152 := Aside0.mk (hbox); have GW152 := Aside0.mk ((by rw [hg]; exact (below_size (hS HB.out)) : w.heap.size ≤ gb152)); have GE152 := Aside0.mk ((by rw [hg]; exact (below_size (hS HB.out)) : w.heap.size ≤ gb152)); replace HB := Aside0.mk (below_step (hS HB.out) hb); clear hb hbox hg) | ((with_reducible refine gate_dst (N := 4) rfl ?_); refine box_event ?hg (N := 4) ?hd (cs := #[.string a1_0, .bool a1_1, .int .i64 a1_2, .int .i64 a1_3, .int .i64 a1_4, .string a1_5]) (t := 34) ?hr ?_; (case hd => rfl); (case hg => rfl); (case hr => first | (go_simp; done) | (go_simp; rfl)); intro gb153 hg w20 hbox hb; replace HO0_0 := Aside0.mk (Kd.V_below (Kd.V_elderB (vS HO0_0.out) gb153 (Nat.le_of_eq hg.symm)) hb); have BK153 := Aside0.mk (hbox); have GW153 := Aside0.mk ((by rw [hg]; exact (below_size (hS HB.out)) : w.heap.size ≤ gb153)); have GE153 := Aside0.mk ((by rw [hg]; exact (below_size (hS HB.out)) : w.heap.size ≤ gb153)); replace HB := Aside0.mk (below_step (hS HB.out) hb); have NB152_153 := Aside0.mk ((by rw [hg]; exact Nat.ne_of_lt (blk_lt (bS BK152.out)) : gb152 ≠ gb153)); have NB153_152 := Aside0.mk ((by rw [hg]; exact Nat.ne_of_gt (blk_lt (bS BK152.out)) : gb153 ≠ gb152)); replace BK152 := Aside0.mk (blk_below (bS BK152.out) hb); clear hb hbox hg) | ((with_reducible refine gate_dst (N := 6) rfl ?_); refine box_event ?hg (N := 6) ?hd (cs := #[.slice none 0 0, .bool false]) (t := 26) ?hr ?_; (case hd => rfl); (case hg => rfl); (case hr => first | (go_simp; done) | (go_simp; rfl)); intro gb154 hg w21 hbox hb; replace HO0_0 := Aside0.mk (Kd.V_below (Kd.V_elderB (vS HO0_0.out) gb154 (Nat.le_of_eq hg.symm)) hb); have BK154 := Aside0.mk (hbox); have GW154 := Aside0.mk ((by rw [hg]; exact (below_size (hS HB.out)) : w.heap.size ≤ gb154)); have GE154 := Aside0.mk ((by rw [hg]; exact (below_size (hS HB.out)) : w.heap.size ≤ gb154)); replace HB := Aside0.mk (below_step (hS HB.out) hb); have NB152_154 := Aside0.mk ((by rw [hg]; exact Nat.ne_of_lt (blk_lt (bS BK152.out)) : gb152 ≠ gb154)); have NB154_152 := Aside0.mk ((by rw [hg]; exact Nat.ne_of_gt (blk_lt (bS BK152.out)) : gb154 ≠ gb152)); replace BK152 := Aside0.mk (blk_below (bS BK152.out) hb); have NB153_154 := Aside0.mk ((by rw [hg]; exact Nat.ne_of_lt (blk_lt (bS BK153.out)) : gb153 ≠ gb154)); have NB154_153 := Aside0.mk ((by rw [hg]; exact Nat.ne_of_gt (blk_lt (bS BK153.out)) : gb154 ≠ gb153)); replace BK153 := Aside0.mk (blk_below (bS BK153.out) hb); clear hb hbox hg; have hnb22 := NB152_153.out; have hnc22 := NB153_152.out; have hnb23 := NB152_154.out; have hnc23 := NB154_152.out; have hcz24_0 : w21.cell? ⟨gb152, 0, none⟩ = some (.slice A0_0 l0_0.length c0_0) := (blk_cell BK152.out 0).trans rfl; have hcz24_1 : w21.cell? ⟨gb152, 1, none⟩ = some (.bool false) := (blk_cell BK152.out 1).trans rfl; have hfz24_0 := blk_frozen BK152.out 0; have hfz24_1 := blk_frozen BK152.out 1; have hnb25 := NB153_154.out; have hnc25 := NB154_153.out; have hcz26_0 : w21.cell? ⟨gb153, 0, none⟩ = some (.string a1_0) := (blk_cell BK153.out 0).trans rfl; have hcz26_1 : w21.cell? ⟨gb153, 1, none⟩ = some (.bool a1_1) := (blk_cell BK153.out 1).trans rfl; have hcz26_2 : w21.cell? ⟨gb153, 2, none⟩ = some (.int .i64 a1_2) := (blk_cell BK153.out 2).trans rfl; have hcz26_3 : w21.cell? ⟨gb153, 3, none⟩ = some (.int .i64 a1_3) := (blk_cell BK153.out 3).trans rfl; have hcz26_4 : w21.cell? ⟨gb153, 4, none⟩ = some (.int .i64 a1_4) := (blk_cell BK153.out 4).trans rfl; have hcz26_5 : w21.cell? ⟨gb153, 5, none⟩ = some (.string a1_5) := (blk_cell BK153.out 5).trans rfl; have hfz26_0 := blk_frozen BK153.out 0; have hfz26_1 := blk_frozen BK153.out 1; have hfz26_2 := blk_frozen BK153.out 2; have hfz26_3 := blk_frozen BK153.out 3; have hfz26_4 := blk_frozen BK153.out 4; have hfz26_5 := blk_frozen BK153.out 5) | ((with_reducible refine gate_callee (f := 62) rfl ?_); refine goesL_ (some 17) rfl rfl Try.func62 (by kernel_rfl) rfl #[.slice A0_0 l0_0.length c0_0, .string a1_0, .func (.func 63) #[] #[]] rfl (by (try simp only [List.map_toArray, List.map_cons, List.map_nil]); first | done | rfl | (simp only [List.length_drop, List.length_take]; rfl)) ?_; (with_reducible refine (api_Change_string.calls _ _ l0_0 a1_0 t155 true _ ?side1 ?side2 A13.out).mono ?_); (case side1 => repeat (first | exact (Kd.V_reads' HO0_0.out).2.2 | (with_reducible refine Kd.C_alloc ?_ _) | (with_reducible refine Kd.C_drewN ?_ _) | (with_reducible refine Kd.C_drew ?_))); (case side2 => exact (Kd.V_reads' HO0_0.out).2.1); rintro e w27 ⟨rfl, hb⟩; refine ⟨_, rfl, ?_⟩; replace HO0_0 := Aside0.mk (Kd.V_below (vS HO0_0.out) hb); replace BK152 := Aside0.mk (blk_below (bS BK152.out) hb); replace BK153 := Aside0.mk (blk_below (bS BK153.out) hb); replace BK154 := Aside0.mk (blk_below (bS BK154.out) hb); replace HB := Aside0.mk (below_step (hS HB.out) hb); (try clear hb); (try clear hb2); (try clear hk); (try clear hi); have hcz28_0 : w27.cell? ⟨gb152, 0, none⟩ = some (.slice A0_0 l0_0.length c0_0) := (blk_cell BK152.out 0).trans rfl; have hcz28_1 : w27.cell? ⟨gb152, 1, none⟩ = some (.bool false) := (blk_cell BK152.out 1).trans rfl; have hfz28_0 := blk_frozen BK152.out 0; have hfz28_1 := blk_frozen BK152.out 1) | ((with_reducible refine gate_callee (f := 66) rfl ?_); refine goesL_ (some 25) rfl rfl Try.func66 (by kernel_rfl) rfl #[.slice A0_0 l0_0.length c0_0] rfl (by (try simp only [List.map_toArray, List.map_cons, List.map_nil]); first | done | rfl | (simp only [List.length_drop, List.length_take]; rfl)) ?_; (with_reducible refine (api_Change_66.calls _ _ l0_0 t157 _ ?side1 ?side2 A15.out).mono ?_); (case side1 => repeat (first | exact (Kd.V_reads' HO0_0.out).2.2 | (with_reducible refine Kd.C_alloc ?_ _) | (with_reducible refine Kd.C_drewN ?_ _) | (with_reducible refine Kd.C_drew ?_))); (case side2 => exact (Kd.V_reads' HO0_0.out).2.1); rintro e w29 ⟨v158, rfl, ho0, hb⟩; refine ⟨_, rfl, ?_⟩; replace HO0_0 := Aside0.mk (Kd.V_elder' (vS HO0_0.out) (Kd.R_base ho0) hb); have HO159 := Aside0.mk (Kd.R_lower (Kd.R_newB (Kd.R_newM (M := fun k_ => (w.heap.size ≤ k_)) ho0 (below_size (hS HB.out)) (fun k_ h_ => h_)) (bS BK153.out)) (below_size (hS HB.out))); replace BK152 := Aside0.mk (blk_below (bS BK152.out) hb); replace BK153 := Aside0.mk (blk_below (bS BK153.out) hb); replace BK154 := Aside0.mk (blk_below (bS BK154.out) hb); replace HB := Aside0.mk (below_step (hS HB.out) hb); (try clear hb); (try clear hb2); (try clear hk); (try clear hi); (try clear ho0); obtain ⟨Ao30, co30, eo30⟩ := Kd.R_slice HO159.out; subst eo30; have hcz31_0 : w29.cell? ⟨gb152, 0, none⟩ = some (.slice A0_0 l0_0.length c0_0) := (blk_cell BK152.out 0).trans rfl; have hcz31_1 : w29.cell? ⟨gb152, 1, none⟩ = some (.bool false) := (blk_cell BK152.out 1).trans rfl; have hfz31_0 := blk_frozen BK152.out 0; have hfz31_1 := blk_frozen BK152.out 1) | ((with_reducible refine gate_store (t := 24) (p := 26) rfl ?_); refine store_event (t := 24) (p := 26) (v := ?vo_w32) (w1 := (w29.setCell ⟨gb152, 0, none⟩ (.slice Ao30 t157.length co30))) ?hg ?ho ?hn ?hr ?_; (case ho => rfl); (case hg => rfl); (case hn => rfl); (case hr => first | (go_simp; done) | (go_simp; rfl)); intro w32 hw; replace HO0_0 : Aside0 (Kd.V k34 34 w32 w.heap.size (fun k_ => (P0_0_ k_ ∨ w.heap.size ≤ k_) ∧ some k_ ≠ (.slice Ao30 t157.length co30 : Value).ownBlock ∧ k_ ≠ gb152 ∧ k_ ≠ gb153 ∧ k_ ≠ gb154) (.slice A0_0 l0_0.length c0_0) l0_0) := ⟨(by rw [hw]; exact (by (with_reducible repeat (first | apply Kd.V_alloc | apply Kd.V_drewN | apply Kd.V_drew)); exact Kd.V_mono (vF (b := gb152) (Kd.V_mono HO0_0.out (fun k_ hk => (⟨hk, hk.1.1.1.2⟩ : _ ∧ k_ ≠ gb152))) (fun _ hk => hk.2)) (fun _ hk => ⟨hk.1.1.1.1.1, ⟨hk.1.2, ⟨hk.1.1.1.1.2, ⟨hk.1.1.1.2, hk.1.1.2⟩⟩⟩⟩)))⟩; replace HO159 : Aside0 (Kd.R k34 34 w32 w.heap.size (fun k_ => (w.heap.size ≤ k_) ∧ k_ ≠ gb153) (.slice Ao30 t157.length co30) t157) := ⟨(by rw [hw]; exact (by (with_reducible repeat (first | apply Kd.R_alloc | apply Kd.R_drewN | apply Kd.R_drew)); exact Kd.R_mono (Kd.R_far (p := ⟨gb152, 0, none⟩) (Kd.R_types HO159.out BK152.out (by decide)) (fun _ hk => hk.2) (.slice Ao30 t157.length co30)) (fun _ hk => ⟨hk.1.1.1, hk.1.2⟩)))⟩; replace BK152 : Aside0 (w32.heap[gb152]? = some (.cells #[.slice Ao30 t157.length co30, .bool false] 26 (0, 0))) := ⟨(by rw [hw]; exact (bS (blk_put (bS BK152.out) 0 _ rfl)))⟩; replace BK153 : Aside0 (w32.heap[gb153]? = some (.cells #[.string a1_0, .bool a1_1, .int .i64 a1_2, .int .i64 a1_3, .int .i64 a1_4, .string a1_5] 34 (0, 0))) := ⟨(by rw [hw]; exact (bF (BK153.out) NB153_152.out))⟩; replace BK154 : Aside0 (w32.heap[gb154]? = some (.cells #[.slice none 0 0, .bool false] 26 (0, 0))) := ⟨(by rw [hw]; exact (bF (BK154.out) NB154_152.out))⟩; replace HB : Aside0 (Below w.heap.size w w32) := ⟨(by rw [hw]; exact (hF HB.out GE152.out))⟩; clear hw; have hcz33_0 : w32.cell? ⟨gb152, 0, none⟩ = some (.slice Ao30 t157.length co30) := (blk_cell BK152.out 0).trans rfl; have hcz33_1 : w32.cell? ⟨gb152, 1, none⟩ = some (.bool false) := (blk_cell BK152.out 1).trans rfl; have hfz33_0 := blk_frozen BK152.out 0; have hfz33_1 := blk_frozen BK152.out 1; have hcz34_0 : w32.cell? ⟨gb153, 0, none⟩ = some (.string a1_0) := (blk_cell BK153.out 0).trans rfl; have hcz34_1 : w32.cell? ⟨gb153, 1, none⟩ = some (.bool a1_1) := (blk_cell BK153.out 1).trans rfl; have hcz34_2 : w32.cell? ⟨gb153, 2, none⟩ = some (.int .i64 a1_2) := (blk_cell BK153.out 2).trans rfl; have hcz34_3 : w32.cell? ⟨gb153, 3, none⟩ = some (.int .i64 a1_3) := (blk_cell BK153.out 3).trans rfl; have hcz34_4 : w32.cell? ⟨gb153, 4, none⟩ = some (.int .i64 a1_4) := (blk_cell BK153.out 4).trans rfl; have hcz34_5 : w32.cell? ⟨gb153, 5, none⟩ = some (.string a1_5) := (blk_cell BK153.out 5).trans rfl; have hfz34_0 := blk_frozen BK153.out 0; have hfz34_1 := blk_frozen BK153.out 1; have hfz34_2 := blk_frozen BK153.out 2; have hfz34_3 := blk_frozen BK153.out 3; have hfz34_4 := blk_frozen BK153.out 4; have hfz34_5 := blk_frozen BK153.out 5; have p18 : 0 ≤ (t155 : Int) := of_decide_eq_true (by first | (with_reducible assumption) | assumption); have q18 : (t155 : Int) < ((t157.length : Int) : Int) := of_decide_eq_true (by first | (with_reducible assumption) | assumption); obtain ⟨go18, co18, eo18, gb18, gl18, cl18, HG18⟩ := Kd.R_form HO159.out (by omega); (first | cases eo18 | (injection eo18 with ea_ en_ ec_; (first | subst ea_ | (injection ea_ with ea_; subst ea_)); subst ec_; clear en_)); have GB18 := Aside0.mk gb18; have GG18 := Aside0.mk HG18; clear gb18 gl18 HG18; obtain ⟨ce18, hcl18, hM18, hcc18, hfr18⟩ := Kd.R_elem HO159.out z34 (t155 : Int) p18 q18; obtain rfl := k34_openM hM18; have hx18_0 : w32.cell? ⟨go18, (t155 : Int).toNat * 6, none⟩ = some (.string ((rd_T34 t157 t155).f0)) := hcc18 0 _ rfl; have hx18_1 : w32.cell? ⟨go18, (t155 : Int).toNat * 6 + 1, none⟩ = some (.bool ((rd_T34 t157 t155).f1)) := hcc18 1 _ rfl; have hx18_2 : w32.cell? ⟨go18, (t155 : Int).toNat * 6 + 2, none⟩ = some (.int .i64 ((rd_T34 t157 t155).f2.f0)) := hcc18 2 _ rfl; have hx18_3 : w32.cell? ⟨go18, (t155 : Int).toNat * 6 + 3, none⟩ = some (.int .i64 ((rd_T34 t157 t155).f2.f1)) := hcc18 3 _ rfl; have hx18_4 : w32.cell? ⟨go18, (t155 : Int).toNat * 6 + 4, none⟩ = some (.int .i64 ((rd_T34 t157 t155).f2.f2)) := hcc18 4 _ rfl; have hx18_5 : w32.cell? ⟨go18, (t155 : Int).toNat * 6 + 5, none⟩ = some (.string ((rd_T34 t157 t155).f2.f3)) := hcc18 5 _ rfl; have hf18_0 : w32.frozen? ⟨go18, (t155 : Int).toNat * 6, none⟩ = false := hfr18 0; have hf18_1 : w32.frozen? ⟨go18, (t155 : Int).toNat * 6 + 1, none⟩ = false := hfr18 1; have hf18_2 : w32.frozen? ⟨go18, (t155 : Int).toNat * 6 + 2, none⟩ = false := hfr18 2; have hf18_3 : w32.frozen? ⟨go18, (t155 : Int).toNat * 6 + 3, none⟩ = false := hfr18 3; have hf18_4 : w32.frozen? ⟨go18, (t155 : Int).toNat * 6 + 4, none⟩ = false := hfr18 4; have hf18_5 : w32.frozen? ⟨go18, (t155 : Int).toNat * 6 + 5, none⟩ = false := hfr18 5; clear hcl18 hcc18 hfr18 hM18; replace p18 := eq_true p18; replace q18 := eq_true q18; have HX35 := Aside0.mk (show Kd.R k34 34 w32 w.heap.size (fun k_ => (w.heap.size ≤ k_) ∧ k_ ≠ gb153) (.slice (some ⟨go18, 0, none⟩) t157.length co30) t157 from (rS HO159.out)); obtain ⟨ce35, hcl35, hM35, hcc35, hfr35⟩ := Kd.R_elem HX35.out z34 (t155 : Int) (of_decide_eq_true (by first | (with_reducible assumption) | assumption)) (by have h_ : (t155 : Int) < ((t157.length : Int) : Int) := of_decide_eq_true (by first | (with_reducible assumption) | assumption); first | exact h_ | (have e_ := (Kd.R_reads' HO159.out).1; omega) | simpa using h_); obtain rfl := k34_openM hM35; have HP35 := Kd.R_seg HX35.out (t155 : Int) (of_decide_eq_true (by first | (with_reducible assumption) | assumption)) (by have h_ : (t155 : Int) < ((t157.length : Int) : Int) := of_decide_eq_true (by first | (with_reducible assumption) | assumption); first | exact h_ | (have e_ := (Kd.R_reads' HO159.out).1; omega) | simpa using h_) (seg := [.string a1_0, .bool a1_1, .int .i64 a1_2, .int .i64 a1_3, .int .i64 a1_4, .string a1_5]) (j := 0) hcl35 hcc35 (show 6 ≤ 6 from by decide) (x' := (⟨a1_0, a1_1, (⟨a1_2, a1_3, a1_4, a1_5⟩ : S32)⟩ : S34)) (k34_mkM _ _ _ (⟨a1_0, a1_1, (⟨a1_2, a1_3, a1_4, a1_5⟩ : S32)⟩ : S34) ) (fun _ hk => hk); have hx35_0 := hcc35 0 _ rfl; (try simp only [show (k34).sz = 6 from rfl, Nat.mul_one, Nat.add_zero] at hx35_0); have hf35_0 := hfr35 0; (try simp only [show (k34).sz = 6 from rfl, Nat.mul_one, Nat.add_zero] at hf35_0); have hx35_1 := hcc35 1 _ rfl; (try simp only [show (k34).sz = 6 from rfl, Nat.mul_one, Nat.add_zero] at hx35_1); have hf35_1 := hfr35 1; (try simp only [show (k34).sz = 6 from rfl, Nat.mul_one, Nat.add_zero] at hf35_1); have hx35_2 := hcc35 2 _ rfl; (try simp only [show (k34).sz = 6 from rfl, Nat.mul_one, Nat.add_zero] at hx35_2); have hf35_2 := hfr35 2; (try simp only [show (k34).sz = 6 from rfl, Nat.mul_one, Nat.add_zero] at hf35_2); have hx35_3 := hcc35 3 _ rfl; (try simp only [show (k34).sz = 6 from rfl, Nat.mul_one, Nat.add_zero] at hx35_3); have hf35_3 := hfr35 3; (try simp only [show (k34).sz = 6 from rfl, Nat.mul_one, Nat.add_zero] at hf35_3); have hx35_4 := hcc35 4 _ rfl; (try simp only [show (k34).sz = 6 from rfl, Nat.mul_one, Nat.add_zero] at hx35_4); have hf35_4 := hfr35 4; (try simp only [show (k34).sz = 6 from rfl, Nat.mul_one, Nat.add_zero] at hf35_4); have hx35_5 := hcc35 5 _ rfl; (try simp only [show (k34).sz = 6 from rfl, Nat.mul_one, Nat.add_zero] at hx35_5); have hf35_5 := hfr35 5; (try simp only [show (k34).sz = 6 from rfl, Nat.mul_one, Nat.add_zero] at hf35_5); clear hcl35 hcc35 hfr35 hM35) | ((with_reducible refine gate_store (t := 34) (p := 31) rfl ?_); refine store_event (t := 34) (p := 31) (v := ?vo_w36) (w1 := ((((((w32.setCell ⟨go18, (t155 : Int).toNat * 6, none⟩ (.string a1_0)).setCell ⟨go18, (t155 : Int).toNat * 6 + 1, none⟩ (.bool a1_1)).setCell ⟨go18, (t155 : Int).toNat * 6 + 2, none⟩ (.int .i64 a1_2)).setCell ⟨go18, (t155 : Int).toNat * 6 + 3, none⟩ (.int .i64 a1_3)).setCell ⟨go18, (t155 : Int).toNat * 6 + 4, none⟩ (.int .i64 a1_4)).setCell ⟨go18, (t155 : Int).toNat * 6 + 5, none⟩ (.string a1_5))) ?hg ?ho ?hn ?hr ?_; (case ho => rfl); (case hg => rfl); (case hn => rfl); (case hr => first | (go_simp; done) | (go_simp; rfl)); intro w36 hw; have hg : w32.grownBy w36 (some go18) := (by rw [hw]; exact HP35.2); have hp_ : Kd.R k34 34 w36 w.heap.size (fun k_ => (w.heap.size ≤ k_) ∧ k_ ≠ gb153) (.slice (some ⟨go18, 0, none⟩) t157.length co30) y160 := (by rw [hw, Ny160.out]; exact HP35.1); clear HP35; replace HO0_0 := Aside0.mk (Kd.V_afterv (v := (.slice (some ⟨go18, 0, none⟩) t157.length co30)) (v1 := (.slice (some ⟨go18, 0, none⟩) t157.length co30)) (ok := (fun k_ => (P0_0_ k_ ∨ w.heap.size ≤ k_) ∧ k_ ≠ gb152 ∧ k_ ≠ gb153 ∧ k_ ≠ gb154)) (by (with_reducible repeat (first | apply Kd.V_alloc | apply Kd.V_drewN | apply Kd.V_drew)); exact Kd.V_mono HO0_0.out (fun _ hk => ⟨⟨hk.1, ⟨hk.2.2.1, ⟨hk.2.2.2.1, hk.2.2.2.2⟩⟩⟩, hk.2.1⟩)) hg (.inl rfl)); replace BK152 := Aside0.mk (blk_grown (bS BK152.out) hg (Kd.R_ne HO159.out BK152.out (by decide))); replace BK153 := Aside0.mk (blk_grown (bS BK153.out) hg (Kd.R_away HO159.out (fun _ hk => hk.2))); replace BK154 := Aside0.mk (blk_grown (bS BK154.out) hg (Kd.R_ne HO159.out BK154.out (by decide))); replace HO159 := Aside0.mk (hp_); replace HB := Aside0.mk ((by rw [hw]; exact below_set (below_set (below_set (below_set (below_set (below_set (HB.out) GB18.out) GB18.out) GB18.out) GB18.out) GB18.out) GB18.out : Below w.heap.size w w36)); clear hg hw hp_; have hcz37_0 : w36.cell? ⟨gb152, 0, none⟩ = some (.slice (some ⟨go18, 0, none⟩) t157.length co30) := (blk_cell BK152.out 0).trans rfl; have hcz37_1 : w36.cell? ⟨gb152, 1, none⟩ = some (.bool false) := (blk_cell BK152.out 1).trans rfl; have hfz37_0 := blk_frozen BK152.out 0; have hfz37_1 := blk_frozen BK152.out 1; have hcz38_0 : w36.cell? ⟨gb154, 0, none⟩ = some (.slice none 0 0) := (blk_cell BK154.out 0).trans rfl; have hcz38_1 : w36.cell? ⟨gb154, 1, none⟩ = some (.bool false) := (blk_cell BK154.out 1).trans rfl; have hfz38_0 := blk_frozen BK154.out 0; have hfz38_1 := blk_frozen BK154.out 1))
     refine bodyPost_ret (results_cell_row rfl _ _ gb154 26 #[.slice (some ⟨go18, 0, none⟩) t157.length co30, .bool false] (0, 0) _ rfl (bS (blk_put (bS (blk_put (bS BK154.out) 0 _ rfl)) 1 _ rfl)) Try.underlying26 rfl (by kernel_rfl)) rfl ?_
     exact ⟨_, by first | rfl | (simp [errW_none, errW_some] <;> rfl) | (simp [*, errW_none, errW_some] <;> rfl), Kd.V_mono (Kd.R_V (by (with_reducible repeat (first | apply Kd.R_alloc | apply Kd.R_drewN | apply Kd.R_drew)); exact Kd.R_mono (Kd.R_far (p := ⟨gb154, 1, none⟩) (Kd.R_far (p := ⟨gb154, 0, none⟩) (Kd.R_types HO159.out BK154.out (by decide)) (fun _ hk => hk.2) (.slice (some ⟨go18, 0, none⟩) t157.length co30)) (fun _ hk => hk.2) (.bool false)) (fun _ hk => hk.1.1))) (fun k_ hk => by first | exact ⟨(.inr (hk.1)), hk.2⟩ | exact (.inr (hk))), by repeat (first | (with_reducible first | exact HB.out | apply below_alloc | apply pw_below_drewN | apply below_drew1 | refine below_set ?_ GE152.out | refine below_set ?_ GE153.out | refine below_set ?_ GE154.out) | exact HB.out)⟩
    ·rw [if_neg c17] at H
     exact absurd H (by simp)
   ·rw [if_neg c16] at H
    exact absurd H (by simp)
  ·replace c14 := Bool.eq_false_iff.mpr c14
   subst c14
   have H1 : (if (l0_0.length : Int) < a2 then ((api_Change_67.f (([l0_0, (([(⟨a1_0, a1_1, (⟨a1_2, a1_3, a1_4, a1_5⟩ : S32)⟩ : S34)] : List (S34)))] : List (List (S34))))).bind fun t167 => (some (t167, false))) else (some (([] : List (S34)), true))) = some (r1, r2) := by rw [if_neg (show ¬ (false = true) by decide)] at H; exact H
   clear H
   have H := H1
   clear H1
   by_cases c39 : (l0_0.length : Int) < a2
   ·rw [if_pos c39] at H
    have c39b0 : decide ((l0_0.length : Int) < a2) = true := decide_eq_true c39
    clear c39
    obtain ⟨y161, hy161⟩ : ∃ y_ : List (S34), y_ = (([(⟨a1_0, a1_1, (⟨a1_2, a1_3, a1_4, a1_5⟩ : S32)⟩ : S34)] : List (S34))) := ⟨_, rfl⟩
    replace H : ((api_Change_67.f (([l0_0, y161] : List (List (S34))))).bind fun t167 => (some (t167, false))) = some (r1, r2) := by first | (rw [hy161]; with_reducible exact H) | (have H2_ := (Option.bind_some _ _).symm.trans H; rw [hy161]; with_reducible exact H2_) | (have H2_ := (Option.bind_some _ _).symm.trans H; with_reducible exact H2_) | with_reducible exact H | (rw [hy161]; exact H) | exact H
    have Ny161 := Aside0.mk hy161
    clear hy161
    obtain ⟨y164, hy164⟩ : ∃ y_ : List (List (S34)), y_ = (([l0_0, y161] : List (List (S34)))) := ⟨_, rfl⟩
    replace H : ((api_Change_67.f y164).bind fun t167 => (some (t167, false))) = some (r1, r2) := by first | (rw [hy164]; with_reducible exact H) | (have H2_ := (Option.bind_some _ _).symm.trans H; rw [hy164]; with_reducible exact H2_) | (have H2_ := (Option.bind_some _ _).symm.trans H; with_reducible exact H2_) | with_reducible exact H | (rw [hy164]; exact H) | exact H
    have Ny164 := Aside0.mk hy164
    clear hy164
    replace H := Option.bind_eq_some_iff.mp H
    obtain ⟨t167, A400, H⟩ := H
    replace H : (some (t167, false)) = some (r1, r2) := H
    have A40 := Aside0.mk A400
    clear A400
    simp only [Option.some.injEq, Prod.mk.injEq] at H
    obtain ⟨rfl, rfl⟩ := H
    go_enter Try.func48, Try.ntmps48
    go_wp2_with (first | ((with_reducible refine gate_dst (N := 3) rfl ?_); refine box_event ?hg (N := 3) ?hd (cs := #[.slice A0_0 l0_0.length c0_0, .bool false]) (t := 26) ?hr ?_; (case hd => rfl); (case hg => rfl); (case hr => first | (go_simp; done) | (go_simp; rfl)); intro gb152 hg w41 hbox hb; replace HO0_0 := Aside0.mk (Kd.V_below (Kd.V_elderB (vS HO0_0.out) gb152 (Nat.le_of_eq hg.symm)) hb); have BK152 := Aside0.mk (hbox); have GW152 := Aside0.mk ((by rw [hg]; exact (below_size (hS HB.out)) : w.heap.size ≤ gb152)); have GE152 := Aside0.mk ((by rw [hg]; exact (below_size (hS HB.out)) : w.heap.size ≤ gb152)); replace HB := Aside0.mk (below_step (hS HB.out) hb); clear hb hbox hg) | ((with_reducible refine gate_dst (N := 4) rfl ?_); refine box_event ?hg (N := 4) ?hd (cs := #[.string a1_0, .bool a1_1, .int .i64 a1_2, .int .i64 a1_3, .int .i64 a1_4, .string a1_5]) (t := 34) ?hr ?_; (case hd => rfl); (case hg => rfl); (case hr => first | (go_simp; done) | (go_simp; rfl)); intro gb153 hg w42 hbox hb; replace HO0_0 := Aside0.mk (Kd.V_below (Kd.V_elderB (vS HO0_0.out) gb153 (Nat.le_of_eq hg.symm)) hb); have BK153 := Aside0.mk (hbox); have GW153 := Aside0.mk ((by rw [hg]; exact (below_size (hS HB.out)) : w.heap.size ≤ gb153)); have GE153 := Aside0.mk ((by rw [hg]; exact (below_size (hS HB.out)) : w.heap.size ≤ gb153)); replace HB := Aside0.mk (below_step (hS HB.out) hb); have NB152_153 := Aside0.mk ((by rw [hg]; exact Nat.ne_of_lt (blk_lt (bS BK152.out)) : gb152 ≠ gb153)); have NB153_152 := Aside0.mk ((by rw [hg]; exact Nat.ne_of_gt (blk_lt (bS BK152.out)) : gb153 ≠ gb152)); replace BK152 := Aside0.mk (blk_below (bS BK152.out) hb); clear hb hbox hg) | ((with_reducible refine gate_dst (N := 6) rfl ?_); refine box_event ?hg (N := 6) ?hd (cs := #[.slice none 0 0, .bool false]) (t := 26) ?hr ?_; (case hd => rfl); (case hg => rfl); (case hr => first | (go_simp; done) | (go_simp; rfl)); intro gb154 hg w43 hbox hb; replace HO0_0 := Aside0.mk (Kd.V_below (Kd.V_elderB (vS HO0_0.out) gb154 (Nat.le_of_eq hg.symm)) hb); have BK154 := Aside0.mk (hbox); have GW154 := Aside0.mk ((by rw [hg]; exact (below_size (hS HB.out)) : w.heap.size ≤ gb154)); have GE154 := Aside0.mk ((by rw [hg]; exact (below_size (hS HB.out)) : w.heap.size ≤ gb154)); replace HB := Aside0.mk (below_step (hS HB.out) hb); have NB152_154 := Aside0.mk ((by rw [hg]; exact Nat.ne_of_lt (blk_lt (bS BK152.out)) : gb152 ≠ gb154)); have NB154_152 := Aside0.mk ((by rw [hg]; exact Nat.ne_of_gt (blk_lt (bS BK152.out)) : gb154 ≠ gb152)); replace BK152 := Aside0.mk (blk_below (bS BK152.out) hb); have NB153_154 := Aside0.mk ((by rw [hg]; exact Nat.ne_of_lt (blk_lt (bS BK153.out)) : gb153 ≠ gb154)); have NB154_153 := Aside0.mk ((by rw [hg]; exact Nat.ne_of_gt (blk_lt (bS BK153.out)) : gb154 ≠ gb153)); replace BK153 := Aside0.mk (blk_below (bS BK153.out) hb); clear hb hbox hg; have hnb44 := NB152_153.out; have hnc44 := NB153_152.out; have hnb45 := NB152_154.out; have hnc45 := NB154_152.out; have hcz46_0 : w43.cell? ⟨gb152, 0, none⟩ = some (.slice A0_0 l0_0.length c0_0) := (blk_cell BK152.out 0).trans rfl; have hcz46_1 : w43.cell? ⟨gb152, 1, none⟩ = some (.bool false) := (blk_cell BK152.out 1).trans rfl; have hfz46_0 := blk_frozen BK152.out 0; have hfz46_1 := blk_frozen BK152.out 1; have hnb47 := NB153_154.out; have hnc47 := NB154_153.out; have hcz48_0 : w43.cell? ⟨gb153, 0, none⟩ = some (.string a1_0) := (blk_cell BK153.out 0).trans rfl; have hcz48_1 : w43.cell? ⟨gb153, 1, none⟩ = some (.bool a1_1) := (blk_cell BK153.out 1).trans rfl; have hcz48_2 : w43.cell? ⟨gb153, 2, none⟩ = some (.int .i64 a1_2) := (blk_cell BK153.out 2).trans rfl; have hcz48_3 : w43.cell? ⟨gb153, 3, none⟩ = some (.int .i64 a1_3) := (blk_cell BK153.out 3).trans rfl; have hcz48_4 : w43.cell? ⟨gb153, 4, none⟩ = some (.int .i64 a1_4) := (blk_cell BK153.out 4).trans rfl; have hcz48_5 : w43.cell? ⟨gb153, 5, none⟩ = some (.string a1_5) := (blk_cell BK153.out 5).trans rfl; have hfz48_0 := blk_frozen BK153.out 0; have hfz48_1 := blk_frozen BK153.out 1; have hfz48_2 := blk_frozen BK153.out 2; have hfz48_3 := blk_frozen BK153.out 3; have hfz48_4 := blk_frozen BK153.out 4; have hfz48_5 := blk_frozen BK153.out 5) | ((with_reducible refine gate_callee (f := 62) rfl ?_); refine goesL_ (some 17) rfl rfl Try.func62 (by kernel_rfl) rfl #[.slice A0_0 l0_0.length c0_0, .string a1_0, .func (.func 63) #[] #[]] rfl (by (try simp only [List.map_toArray, List.map_cons, List.map_nil]); first | done | rfl | (simp only [List.length_drop, List.length_take]; rfl)) ?_; (with_reducible refine (api_Change_string.calls _ _ l0_0 a1_0 t155 false _ ?side1 ?side2 A13.out).mono ?_); (case side1 => repeat (first | exact (Kd.V_reads' HO0_0.out).2.2 | (with_reducible refine Kd.C_alloc ?_ _) | (with_reducible refine Kd.C_drewN ?_ _) | (with_reducible refine Kd.C_drew ?_))); (case side2 => exact (Kd.V_reads' HO0_0.out).2.1); rintro e w49 ⟨rfl, hb⟩; refine ⟨_, rfl, ?_⟩; replace HO0_0 := Aside0.mk (Kd.V_below (vS HO0_0.out) hb); replace BK152 := Aside0.mk (blk_below (bS BK152.out) hb); replace BK153 := Aside0.mk (blk_below (bS BK153.out) hb); replace BK154 := Aside0.mk (blk_below (bS BK154.out) hb); replace HB := Aside0.mk (below_step (hS HB.out) hb); (try clear hb); (try clear hb2); (try clear hk); (try clear hi); have hcz50_0 : w49.cell? ⟨gb152, 0, none⟩ = some (.slice A0_0 l0_0.length c0_0) := (blk_cell BK152.out 0).trans rfl; have hcz50_1 : w49.cell? ⟨gb152, 1, none⟩ = some (.bool false) := (blk_cell BK152.out 1).trans rfl; have hfz50_0 := blk_frozen BK152.out 0; have hfz50_1 := blk_frozen BK152.out 1; have hcz51_0 : w49.cell? ⟨gb153, 0, none⟩ = some (.string a1_0) := (blk_cell BK153.out 0).trans rfl; have hcz51_1 : w49.cell? ⟨gb153, 1, none⟩ = some (.bool a1_1) := (blk_cell BK153.out 1).trans rfl; have hcz51_2 : w49.cell? ⟨gb153, 2, none⟩ = some (.int .i64 a1_2) := (blk_cell BK153.out 2).trans rfl; have hcz51_3 : w49.cell? ⟨gb153, 3, none⟩ = some (.int .i64 a1_3) := (blk_cell BK153.out 3).trans rfl; have hcz51_4 : w49.cell? ⟨gb153, 4, none⟩ = some (.int .i64 a1_4) := (blk_cell BK153.out 4).trans rfl; have hcz51_5 : w49.cell? ⟨gb153, 5, none⟩ = some (.string a1_5) := (blk_cell BK153.out 5).trans rfl; have hfz51_0 := blk_frozen BK153.out 0; have hfz51_1 := blk_frozen BK153.out 1; have hfz51_2 := blk_frozen BK153.out 2; have hfz51_3 := blk_frozen BK153.out 3; have hfz51_4 := blk_frozen BK153.out 4; have hfz51_5 := blk_frozen BK153.out 5) | ((with_reducible refine gate_dst (N := 41) rfl ?_); refine Kd.R_lit k34 _ 34 ?hg (N := 41) ?hd (xs := ([(⟨a1_0, a1_1, (⟨a1_2, a1_3, a1_4, a1_5⟩ : S32)⟩ : S34)] : List (S34))) (inner := [.string a1_0, .bool a1_1, .int .i64 a1_2, .int .i64 a1_3, .int .i64 a1_4, .string a1_5]) (ok := fun _ => True) (okp := fun _ => True) ?hr ?hp (fun _ hk => hk) trivial (Below.refl _ _) (Nat.le_refl _) (by simp) ?_; (case hd => rfl); (case hg => rfl); (case hr => first | (go_simp; done) | (go_simp; rfl)); (case hp => exact (Reps.c6 (show Kd.M k34 _ _ _ (⟨a1_0, a1_1, (⟨a1_2, a1_3, a1_4, a1_5⟩ : S32)⟩ : S34) [.string a1_0, .bool a1_1, .int .i64 a1_2, .int .i64 a1_3, .int .i64 a1_4, .string a1_5] from (k34_mkM _ _ _ (⟨a1_0, a1_1, (⟨a1_2, a1_3, a1_4, a1_5⟩ : S32)⟩ : S34) )) (Reps.none _ _))); intro v162 w52 ho53 hb hg_ hnew_; clear hg_ hnew_; (first | rw [← Ny161.out] at ho53 | (simp only [Int.reduceToNat] at ho53; rw [← Ny161.out] at ho53)); replace HO0_0 := Aside0.mk (Kd.V_elder' (vS HO0_0.out) (Kd.R_base ho53) hb); have HO163 := Aside0.mk (Kd.R_lower (Kd.R_newB (Kd.R_newM (M := fun k_ => (w.heap.size ≤ k_)) ho53 (below_size (hS HB.out)) (fun k_ h_ => h_)) (bS BK153.out)) (below_size (hS HB.out))); replace BK152 := Aside0.mk (blk_below (bS BK152.out) hb); replace BK153 := Aside0.mk (blk_below (bS BK153.out) hb); replace BK154 := Aside0.mk (blk_below (bS BK154.out) hb); replace HB := Aside0.mk (below_step (hS HB.out) hb); clear hb ho53; obtain ⟨Ao54, co54, eo54⟩ := Kd.R_slice HO163.out; subst eo54) | ((with_reducible refine gate_dst (N := 42) rfl ?_); refine Kd.N_lit (Kd.slice 34 k34) _ 24 ?hg (N' := 42) ?hd (xs := ([l0_0, y161] : List (List (S34)))) (inner := [.slice A0_0 l0_0.length c0_0, .slice Ao54 y161.length co54]) (ok := (fun k_ => (P0_0_ k_ ∨ w.heap.size ≤ k_) ∧ k_ ≠ gb152 ∧ k_ ≠ gb153 ∧ k_ ≠ gb154)) (okp := (fun k_ => (P0_0_ k_ ∨ w.heap.size ≤ k_) ∧ k_ ≠ gb152 ∧ k_ ≠ gb153 ∧ k_ ≠ gb154)) ?hr ?hp (fun _ hk => hk) ((show ∀ k_, w52.heap.size ≤ k_ → (fun k_ => (P0_0_ k_ ∨ w.heap.size ≤ k_) ∧ k_ ≠ gb152 ∧ k_ ≠ gb153 ∧ k_ ≠ gb154) k_ from fun k_ hk => ⟨(.inr (Nat.le_trans (below_size (hS HB.out)) hk)), Kd.freshB (bS BK152.out) k_ hk, Kd.freshB (bS BK153.out) k_ hk, Kd.freshB (bS BK154.out) k_ hk⟩) _ (Nat.le_refl _)) (Below.refl _ _) (Nat.le_refl _) (by simp) ?_; (case hd => rfl); (case hg => rfl); (case hr => first | (go_simp; done) | (go_simp; rfl)); (case hp => exact (Reps.one (show Kd.FK (Kd.slice 34 k34) _ _ l0_0 [.slice A0_0 l0_0.length c0_0] from (Kd.FK_slice_mk (Kd.V_reads' (Kd.V_mono (ok' := (fun k_ => (P0_0_ k_ ∨ w.heap.size ≤ k_) ∧ k_ ≠ gb152 ∧ k_ ≠ gb153 ∧ k_ ≠ gb154)) (HO0_0.out) (fun k_ hk => ⟨hk.1.1.1.1, ⟨hk.1.1.1.2, ⟨hk.1.1.2, hk.1.2⟩⟩⟩))).2.1 (Kd.V_F (Kd.V_mono (ok' := (fun k_ => (P0_0_ k_ ∨ w.heap.size ≤ k_) ∧ k_ ≠ gb152 ∧ k_ ≠ gb153 ∧ k_ ≠ gb154)) (HO0_0.out) (fun k_ hk => ⟨hk.1.1.1.1, ⟨hk.1.1.1.2, ⟨hk.1.1.2, hk.1.2⟩⟩⟩))))) (Reps.one (show Kd.FK (Kd.slice 34 k34) _ _ y161 [.slice Ao54 y161.length co54] from (Kd.FK_slice_mk (Kd.R_reads' (Kd.R_mono (ok' := (fun k_ => (P0_0_ k_ ∨ w.heap.size ≤ k_) ∧ k_ ≠ gb152 ∧ k_ ≠ gb153 ∧ k_ ≠ gb154)) (Kd.R_types (Kd.R_types (HO163.out) BK152.out (by decide)) BK154.out (by decide)) (fun k_ hk => ⟨(.inr (hk.1.1.1.1)), ⟨hk.1.2, ⟨hk.1.1.2, hk.2⟩⟩⟩))).2.1 (Kd.R_F (Kd.R_mono (ok' := (fun k_ => (P0_0_ k_ ∨ w.heap.size ≤ k_) ∧ k_ ≠ gb152 ∧ k_ ≠ gb153 ∧ k_ ≠ gb154)) (Kd.R_types (Kd.R_types (HO163.out) BK152.out (by decide)) BK154.out (by decide)) (fun k_ hk => ⟨(.inr (hk.1.1.1.1)), ⟨hk.1.2, ⟨hk.1.1.2, hk.2⟩⟩⟩))))) (Reps.none _ _)))); intro v165 w55 ho56 hb hg_ hnew_; clear hg_ hnew_; (first | rw [← Ny164.out] at ho56 | (simp only [Int.reduceToNat] at ho56; rw [← Ny164.out] at ho56)); replace HO0_0 := Aside0.mk (Kd.V_elder' (vS HO0_0.out) (Kd.N_base ho56) hb); have HO166 := Aside0.mk (Kd.N_lower ho56 (below_size (hS HB.out))); replace BK152 := Aside0.mk (blk_below (bS BK152.out) hb); replace BK153 := Aside0.mk (blk_below (bS BK153.out) hb); replace BK154 := Aside0.mk (blk_below (bS BK154.out) hb); replace HB := Aside0.mk (below_step (hS HB.out) hb); clear HO163; clear hb ho56; obtain ⟨Ao57, co57, eo57⟩ := Kd.N_slice HO166.out; subst eo57) | ((with_reducible refine gate_callee (f := 67) rfl ?_); refine goesL_ (some 43) rfl rfl Try.func67 (by kernel_rfl) rfl #[.slice Ao57 y164.length co57] rfl (by (try simp only [List.map_toArray, List.map_cons, List.map_nil]); first | done | rfl | (simp only [List.length_drop, List.length_take]; rfl)) ?_; (with_reducible refine (api_Change_67.calls _ _ y164 t167 _ ?side1 ?side2 A40.out).mono ?_); (case side1 => repeat (first | exact (Kd.N_reads' HO166.out).2.2 | (with_reducible refine Kd.C_alloc ?_ _) | (with_reducible refine Kd.C_drewN ?_ _) | (with_reducible refine Kd.C_drew ?_))); (case side2 => exact (Kd.N_reads' HO166.out).2.1); rintro e w58 ⟨v168, rfl, ho0, hb⟩; refine ⟨_, rfl, ?_⟩; replace HO0_0 := Aside0.mk (Kd.V_elder' (vS HO0_0.out) (Kd.R_base ho0) hb); replace HO166 := Aside0.mk (Kd.N_elder' (by (with_reducible repeat (first | apply Kd.N_alloc | apply Kd.N_drewN | apply Kd.N_drew)); exact HO166.out) (Kd.R_base ho0) hb); have HO169 := Aside0.mk (Kd.R_lower (Kd.R_newB (Kd.R_newM (M := fun k_ => (w.heap.size ≤ k_)) ho0 (below_size (hS HB.out)) (fun k_ h_ => h_)) (bS BK153.out)) (below_size (hS HB.out))); replace BK152 := Aside0.mk (blk_below (bS BK152.out) hb); replace BK153 := Aside0.mk (blk_below (bS BK153.out) hb); replace BK154 := Aside0.mk (blk_below (bS BK154.out) hb); replace HB := Aside0.mk (below_step (hS HB.out) hb); (try clear hb); (try clear hb2); (try clear hk); (try clear hi); (try clear ho0); obtain ⟨Ao59, co59, eo59⟩ := Kd.R_slice HO169.out; subst eo59; have hcz60_0 : w58.cell? ⟨gb152, 0, none⟩ = some (.slice A0_0 l0_0.length c0_0) := (blk_cell BK152.out 0).trans rfl; have hcz60_1 : w58.cell? ⟨gb152, 1, none⟩ = some (.bool false) := (blk_cell BK152.out 1).trans rfl; have hfz60_0 := blk_frozen BK152.out 0; have hfz60_1 := blk_frozen BK152.out 1; have hcz61_0 : w58.cell? ⟨gb154, 0, none⟩ = some (.slice none 0 0) := (blk_cell BK154.out 0).trans rfl; have hcz61_1 : w58.cell? ⟨gb154, 1, none⟩ = some (.bool false) := (blk_cell BK154.out 1).trans rfl; have hfz61_0 := blk_frozen BK154.out 0; have hfz61_1 := blk_frozen BK154.out 1))
    refine bodyPost_ret (results_cell_row rfl _ _ gb154 26 #[.slice Ao59 t167.length co59, .bool false] (0, 0) _ rfl (bS (blk_put (bS (blk_put (bF (BK154.out) NB154_152.out) 0 _ rfl)) 1 _ rfl)) Try.underlying26 rfl (by kernel_rfl)) rfl ?_
    exact ⟨_, by first | rfl | (simp [errW_none, errW_some] <;> rfl) | (simp [*, errW_none, errW_some] <;> rfl), Kd.V_mono (Kd.R_V (by (with_reducible repeat (first | apply Kd.R_alloc | apply Kd.R_drewN | apply Kd.R_drew)); exact Kd.R_mono (Kd.R_far (p := ⟨gb154, 1, none⟩) (Kd.R_far (p := ⟨gb154, 0, none⟩) (Kd.R_far (p := ⟨gb152, 0, none⟩) (Kd.R_types (Kd.R_types HO169.out BK152.out (by decide)) BK154.out (by decide)) (fun _ hk => hk.1.2) (.slice Ao59 t167.length co59)) (fun _ hk => hk.2) (.slice Ao59 t167.length co59)) (fun _ hk => hk.2) (.bool false)) (fun _ hk => hk.1.1.1.1))) (fun k_ hk => by first | exact ⟨(.inr (hk.1)), hk.2⟩ | exact (.inr (hk))), by repeat (first | (with_reducible first | exact HB.out | apply below_alloc | apply pw_below_drewN | apply below_drew1 | refine below_set ?_ GE152.out | refine below_set ?_ GE153.out | refine below_set ?_ GE154.out) | exact HB.out)⟩
   ·rw [if_neg c39] at H
    have c39b0 : decide ((l0_0.length : Int) < a2) = false := decide_eq_false c39
    clear c39
    simp only [Option.some.injEq, Prod.mk.injEq] at H
    obtain ⟨rfl, rfl⟩ := H
    go_enter Try.func48, Try.ntmps48
    go_wp2_with (first | ((with_reducible refine gate_dst (N := 3) rfl ?_); refine box_event ?hg (N := 3) ?hd (cs := #[.slice A0_0 l0_0.length c0_0, .bool false]) (t := 26) ?hr ?_; (case hd => rfl); (case hg => rfl); (case hr => first | (go_simp; done) | (go_simp; rfl)); intro gb152 hg w62 hbox hb; replace HO0_0 := Aside0.mk (Kd.V_below (Kd.V_elderB (vS HO0_0.out) gb152 (Nat.le_of_eq hg.symm)) hb); have BK152 := Aside0.mk (hbox); have GW152 := Aside0.mk ((by rw [hg]; exact (below_size (hS HB.out)) : w.heap.size ≤ gb152)); have GE152 := Aside0.mk ((by rw [hg]; exact (below_size (hS HB.out)) : w.heap.size ≤ gb152)); replace HB := Aside0.mk (below_step (hS HB.out) hb); clear hb hbox hg) | ((with_reducible refine gate_dst (N := 4) rfl ?_); refine box_event ?hg (N := 4) ?hd (cs := #[.string a1_0, .bool a1_1, .int .i64 a1_2, .int .i64 a1_3, .int .i64 a1_4, .string a1_5]) (t := 34) ?hr ?_; (case hd => rfl); (case hg => rfl); (case hr => first | (go_simp; done) | (go_simp; rfl)); intro gb153 hg w63 hbox hb; replace HO0_0 := Aside0.mk (Kd.V_below (Kd.V_elderB (vS HO0_0.out) gb153 (Nat.le_of_eq hg.symm)) hb); have BK153 := Aside0.mk (hbox); have GW153 := Aside0.mk ((by rw [hg]; exact (below_size (hS HB.out)) : w.heap.size ≤ gb153)); have GE153 := Aside0.mk ((by rw [hg]; exact (below_size (hS HB.out)) : w.heap.size ≤ gb153)); replace HB := Aside0.mk (below_step (hS HB.out) hb); have NB152_153 := Aside0.mk ((by rw [hg]; exact Nat.ne_of_lt (blk_lt (bS BK152.out)) : gb152 ≠ gb153)); have NB153_152 := Aside0.mk ((by rw [hg]; exact Nat.ne_of_gt (blk_lt (bS BK152.out)) : gb153 ≠ gb152)); replace BK152 := Aside0.mk (blk_below (bS BK152.out) hb); clear hb hbox hg) | ((with_reducible refine gate_dst (N := 6) rfl ?_); refine box_event ?hg (N := 6) ?hd (cs := #[.slice none 0 0, .bool false]) (t := 26) ?hr ?_; (case hd => rfl); (case hg => rfl); (case hr => first | (go_simp; done) | (go_simp; rfl)); intro gb154 hg w64 hbox hb; replace HO0_0 := Aside0.mk (Kd.V_below (Kd.V_elderB (vS HO0_0.out) gb154 (Nat.le_of_eq hg.symm)) hb); have BK154 := Aside0.mk (hbox); have GW154 := Aside0.mk ((by rw [hg]; exact (below_size (hS HB.out)) : w.heap.size ≤ gb154)); have GE154 := Aside0.mk ((by rw [hg]; exact (below_size (hS HB.out)) : w.heap.size ≤ gb154)); replace HB := Aside0.mk (below_step (hS HB.out) hb); have NB152_154 := Aside0.mk ((by rw [hg]; exact Nat.ne_of_lt (blk_lt (bS BK152.out)) : gb152 ≠ gb154)); have NB154_152 := Aside0.mk ((by rw [hg]; exact Nat.ne_of_gt (blk_lt (bS BK152.out)) : gb154 ≠ gb152)); replace BK152 := Aside0.mk (blk_below (bS BK152.out) hb); have NB153_154 := Aside0.mk ((by rw [hg]; exact Nat.ne_of_lt (blk_lt (bS BK153.out)) : gb153 ≠ gb154)); have NB154_153 := Aside0.mk ((by rw [hg]; exact Nat.ne_of_gt (blk_lt (bS BK153.out)) : gb154 ≠ gb153)); replace BK153 := Aside0.mk (blk_below (bS BK153.out) hb); clear hb hbox hg; have hnb65 := NB152_153.out; have hnc65 := NB153_152.out; have hnb66 := NB152_154.out; have hnc66 := NB154_152.out; have hcz67_0 : w64.cell? ⟨gb152, 0, none⟩ = some (.slice A0_0 l0_0.length c0_0) := (blk_cell BK152.out 0).trans rfl; have hcz67_1 : w64.cell? ⟨gb152, 1, none⟩ = some (.bool false) := (blk_cell BK152.out 1).trans rfl; have hfz67_0 := blk_frozen BK152.out 0; have hfz67_1 := blk_frozen BK152.out 1; have hnb68 := NB153_154.out; have hnc68 := NB154_153.out; have hcz69_0 : w64.cell? ⟨gb153, 0, none⟩ = some (.string a1_0) := (blk_cell BK153.out 0).trans rfl; have hcz69_1 : w64.cell? ⟨gb153, 1, none⟩ = some (.bool a1_1) := (blk_cell BK153.out 1).trans rfl; have hcz69_2 : w64.cell? ⟨gb153, 2, none⟩ = some (.int .i64 a1_2) := (blk_cell BK153.out 2).trans rfl; have hcz69_3 : w64.cell? ⟨gb153, 3, none⟩ = some (.int .i64 a1_3) := (blk_cell BK153.out 3).trans rfl; have hcz69_4 : w64.cell? ⟨gb153, 4, none⟩ = some (.int .i64 a1_4) := (blk_cell BK153.out 4).trans rfl; have hcz69_5 : w64.cell? ⟨gb153, 5, none⟩ = some (.string a1_5) := (blk_cell BK153.out 5).trans rfl; have hfz69_0 := blk_frozen BK153.out 0; have hfz69_1 := blk_frozen BK153.out 1; have hfz69_2 := blk_frozen BK153.out 2; have hfz69_3 := blk_frozen BK153.out 3; have hfz69_4 := blk_frozen BK153.out 4; have hfz69_5 := blk_frozen BK153.out 5) | ((with_reducible refine gate_callee (f := 62) rfl ?_); refine goesL_ (some 17) rfl rfl Try.func62 (by kernel_rfl) rfl #[.slice A0_0 l0_0.length c0_0, .string a1_0, .func (.func 63) #[] #[]] rfl (by (try simp only [List.map_toArray, List.map_cons, List.map_nil]); first | done | rfl | (simp only [List.length_drop, List.length_take]; rfl)) ?_; (with_reducible refine (api_Change_string.calls _ _ l0_0 a1_0 t155 false _ ?side1 ?side2 A13.out).mono ?_); (case side1 => repeat (first | exact (Kd.V_reads' HO0_0.out).2.2 | (with_reducible refine Kd.C_alloc ?_ _) | (with_reducible refine Kd.C_drewN ?_ _) | (with_reducible refine Kd.C_drew ?_))); (case side2 => exact (Kd.V_reads' HO0_0.out).2.1); rintro e w70 ⟨rfl, hb⟩; refine ⟨_, rfl, ?_⟩; replace HO0_0 := Aside0.mk (Kd.V_below (vS HO0_0.out) hb); replace BK152 := Aside0.mk (blk_below (bS BK152.out) hb); replace BK153 := Aside0.mk (blk_below (bS BK153.out) hb); replace BK154 := Aside0.mk (blk_below (bS BK154.out) hb); replace HB := Aside0.mk (below_step (hS HB.out) hb); (try clear hb); (try clear hb2); (try clear hk); (try clear hi); have hcz71_0 : w70.cell? ⟨gb152, 0, none⟩ = some (.slice A0_0 l0_0.length c0_0) := (blk_cell BK152.out 0).trans rfl; have hcz71_1 : w70.cell? ⟨gb152, 1, none⟩ = some (.bool false) := (blk_cell BK152.out 1).trans rfl; have hfz71_0 := blk_frozen BK152.out 0; have hfz71_1 := blk_frozen BK152.out 1; have hcz72_0 : w70.cell? ⟨gb154, 0, none⟩ = some (.slice none 0 0) := (blk_cell BK154.out 0).trans rfl; have hcz72_1 : w70.cell? ⟨gb154, 1, none⟩ = some (.bool false) := (blk_cell BK154.out 1).trans rfl; have hfz72_0 := blk_frozen BK154.out 0; have hfz72_1 := blk_frozen BK154.out 1))
    refine bodyPost_ret (results_cell_row rfl _ _ gb154 26 #[.slice none 0 0, .bool true] (0, 0) _ rfl (bS (blk_put (bS (blk_put (bS BK154.out) 0 _ rfl)) 1 _ rfl)) Try.underlying26 rfl (by kernel_rfl)) rfl ?_
    exact ⟨_, by first | rfl | (simp [errW_none, errW_some] <;> rfl) | (simp [*, errW_none, errW_some] <;> rfl), Kd.V_nil _ _ _ _ _, by repeat (first | (with_reducible first | exact HB.out | apply below_alloc | apply pw_below_drewN | apply below_drew1 | refine below_set ?_ GE152.out | refine below_set ?_ GE153.out | refine below_set ?_ GE154.out) | exact HB.out)⟩

/-! ### link_Push: function 19 -/
/-! ### ident_Less: function 70 -/
abbrev ident_Less.f := @Go.Proofs.Ytmigglldahkngaa.XLess.ident_Less.f
set_option maxHeartbeats 1000000 in
theorem ident_Less.calls (a0 : ByteArray) (a1 : ByteArray) (r : Bool) (w : World) (h : ident_Less.f a0 a1 = some r) :
  Calls Try.prog 70 #[.string a0, .string a1] w fun e w' => e = .returned (.bool r) ∧ Below w.heap.size w w' := Go.Proofs.Ytmigglldahkngaa.XLess.ident_Less.calls a0 a1 r w h

end Go.Proofs.Ytmigglldahkngaa.PA
end

section
-- Written by a program of this session (wip/tools/xprint.py), which drives the kit's print.
namespace Go.Proofs.Ytmigglldahkngaa.PA
open Go.RowKit Go.Proofs.YtmigglldahkngaaW.PrintWords Go.Proofs.YtmigglldahkngaaW.PrintLast Go.Proofs.YtmigglldahkngaaW.PrintMore Go.Proofs.Ytmigglldahkngaa.XQuiet
attribute [local go_sem] max2_int min2_int max_two min_two   -- for this text's walks alone
set_option linter.unusedVariables false
set_option linter.unusedSimpArgs false

/-! ### rollcallref17_May: function 45 -/
mutual
def rollcallref17_May.j0 : Nat → Bool → List (S34) → Bool → Option (Bool)
 | 0, _, _, _ => none
 | k + 1, x20, x264000, x264001 => if x20 = true then (some false) else (rollcallref17_May.l0 k 0 x264000 x264001)
def rollcallref17_May.l0 : Nat → Int → List (S34) → Bool → Option (Bool)
 | 0, _, _, _ => none
 | k + 1, x5, x264000, x264001 => if x5 < (x264000.length : Int) then (if 0 ≤ x5 then ((rollcallref17_One.f k ((rd_T34 x264000 x5).f0) ((rd_T34 x264000 x5).f1) ((rd_T34 x264000 x5).f2.f0) ((rd_T34 x264000 x5).f2.f1) ((rd_T34 x264000 x5).f2.f2) ((rd_T34 x264000 x5).f2.f3)).bind fun t265 => (if t265 = true then ((rollcallref17_place.f k x264000 x264001 ((rd_T34 x264000 x5).f0)).bind fun t267 => (if t267 = x5 then (rollcallref17_May.l0 k (wrap64 (x5 + 1)) x264000 x264001) else (some false))) else (some false))) else (none)) else (some true)
end
def rollcallref17_May.f (k : Nat) (l0_0 : List (S34)) (a0_1 : Bool) (a1 : Int) : Option (Bool) := if (l0_0.length : Int) > a1 then (rollcallref17_May.j0 k true l0_0 a0_1) else (if a0_1 = true then (rollcallref17_May.j0 k (decide ((l0_0.length : Int) > 0)) l0_0 a0_1) else (rollcallref17_May.j0 k false l0_0 a0_1))
set_option maxHeartbeats 8000000 in
set_option maxRecDepth 100000 in
theorem rollcallref17_May.calls (k : Nat) (A0_0 : Option Addr) (c0_0 : Nat) (l0_0 : List (S34)) (a0_1 : Bool) (a1 : Int) (r : Bool) (w : World) (hr0_0 : Kd.C k34 w A0_0 l0_0.length l0_0) (hc0_0 : l0_0.length ≤ c0_0) (h : rollcallref17_May.f k l0_0 a0_1 a1 = some r) :
  Calls Try.prog 45 #[.agg #[.slice A0_0 l0_0.length c0_0, .bool a0_1], .int .i64 a1] w fun e w' => e = .returned (.bool r) ∧ Below w.heap.size w w' := by
 unfold rollcallref17_May.f at h
 have hm63 : (l0_0.length : Int) ≤ 9223372036854775807 := by have := hr0_0.2.1; omega
 go_enter Try.func45, Try.ntmps45
 go_upto_region 1 with (fail)
 generalize hg : World.alloc _ _ = w1
 have hb1 : Below w.heap.size w w1 := hg ▸ below_alloc (Below.refl _ _) _
 have T2 : w1.heap[w.heap.size]? = some (.cells #[.slice A0_0 l0_0.length c0_0, .bool a0_1] 26 (0, 0)) := hg ▸ heap_alloc_new _ _
 have HR := Aside0.mk (Kd.C_below hr0_0 hb1)
 have HX := Aside0.mk hb1
 have HC := Aside0.mk hc0_0
 clear hr0_0 hg hb1 hc0_0
 generalize w.heap.size = p2 at T2 ⊢
 have HT := Aside0.mk T2
 have h0 := (blk_cell T2 0).trans rfl
 have h1 := (blk_cell T2 1).trans rfl
 clear T2
 have j0no : ∀ m, rollcallref17_May.j0 m true l0_0 a0_1 = some r → r = false := fun m hm => by
  cases m with
  | zero => exact absurd hm (by simp [rollcallref17_May.j0])
  | succ m => rw [rollcallref17_May.j0, if_pos rfl] at hm; exact (Option.some.inj hm).symm
 by_cases e1 : (l0_0.length : Int) > a1
 ·rw [if_pos e1] at h
  obtain rfl := j0no k h
  have e1' : a1 < (l0_0.length : Int) := e1
  clear h j0no e1
  go_wp2
  go_ret
  exact ⟨rfl, HX.out⟩
 rw [if_neg e1] at h
 have e1' : (l0_0.length : Int) ≤ a1 := by omega
 have HE : rollcallref17_May.j0 k true l0_0 a0_1 = some r ∧ a0_1 = true ∧ 0 < l0_0.length ∨ rollcallref17_May.j0 k false l0_0 a0_1 = some r ∧ (a0_1 = false ∨ l0_0.length = 0) := by
  cases a0_1 with
  | true =>
   rw [if_pos rfl] at h
   by_cases e : (l0_0.length : Int) > 0
   ·rw [decide_eq_true e] at h; exact .inl ⟨h, rfl, by omega⟩
   ·rw [decide_eq_false e] at h; exact .inr ⟨h, .inr (by omega)⟩
  | false => rw [if_neg (by simp)] at h; exact .inr ⟨h, .inl rfl⟩
 clear h e1
 rcases HE with ⟨h, rfl, hpos⟩ | ⟨h, hz⟩
 ·obtain rfl := j0no k h
  have hpos' : (0 : Int) < (l0_0.length : Int) := by omega
  clear h j0no
  go_wp2
  go_ret
  exact ⟨rfl, HX.out⟩
 clear j0no
 obtain ⟨k, rfl⟩ : ∃ m, k = m + 1 := by
  cases k with
  | zero => exact absurd h (by simp [rollcallref17_May.j0])
  | succ m => exact ⟨m, rfl⟩
 rw [rollcallref17_May.j0, if_neg (by simp)] at h
 have HH := Aside0.mk h
 clear h
 have HB := Aside0.mk (Below.refl w1.heap.size w1)
 have hgo : ∀ (Q : Prop), (a0_1 = false → Q) → (l0_0.length = 0 → Q) → Q := fun Q a b => hz.elim a b
 have hq : (a0_1 = false) ∨ (a0_1 = true ∧ l0_0.length = 0) := by
  cases a0_1 with
  | false => exact .inl rfl
  | true => exact .inr ⟨rfl, hz.elim (fun h => by cases h) id⟩
 clear hgo hz
 have hpos0 : a0_1 = true → ¬ (0 : Int) < (l0_0.length : Int) := fun e => by
  rcases hq with h | h
  ·rw [h] at e; cases e
  ·omega
 rcases hq with rfl | ⟨rfl, hl0⟩
 ·have hn1 : (a1 < (l0_0.length : Int)) = False := eq_false (by omega)
  go_wp2
  go_loopg [5] (k) (fun g x wr => ∃ i : Nat, x = .int .i64 i ∧ i ≤ l0_0.length ∧ Aside0 (rollcallref17_May.l0 g (i : Int) l0_0 false = some r) ∧ Aside0 (Below w1.heap.size w1 wr))
  case atStart => exact ⟨0, rfl, Nat.zero_le _, HH, HB⟩
  case round =>
   obtain ⟨i, rfl, hi, hh, hb⟩ := hrel
   clear HH HB
   obtain ⟨g, rfl⟩ : ∃ g, gk = g + 1 := by
    cases gk with
    | zero => exact absurd hh.out (by simp [rollcallref17_May.l0])
    | succ g => exact ⟨g, rfl⟩
   have h := hh.out
   clear hh
   have T2 := blk_below HT.out hb.out
   have h0 := (blk_cell T2 0).trans rfl
   have h1 := (blk_cell T2 1).trans rfl
   replace HX := Aside0.mk (below_step HX.out hb.out)
   rw [rollcallref17_May.l0] at h
   by_cases hlt : (i : Int) < (l0_0.length : Int)
   ·rw [if_pos hlt, if_pos (by omega)] at h
    have hC := Kd.C_below HR.out hb.out
    obtain ⟨ad, he, q0, q1, q2, q3, q4, q5⟩ := at_T34 hC (i : Int) (by omega) (by omega)
    have HE := Aside0.mk he
    rw [Int.toNat_natCast] at q0 q1 q2 q3 q4 q5
    have h0i : (0 : Int) ≤ (i : Int) := by omega
    generalize rd_T34 l0_0 (i : Int) = x at h q0 q1 q2 q3 q4 q5
    rcases hI : rollcallref17_One.f g x.f0 x.f1 x.f2.f0 x.f2.f1 x.f2.f2 x.f2.f3 with _ | b1
    ·rw [hI] at h; exact absurd h (by simp)
    rw [hI] at h
    simp only [Option.bind_some] at h
    subst he
    have d1 := fun u : Kin wr => rollcallref17_One.calls g x.f0 x.f1 x.f2.f0 x.f2.f1 x.f2.f2 x.f2.f3 b1 u.at' hI
    have y0 : ∀ u : Kin wr, u.at'.cell? _ = _ := Kin.cell q0
    have y1 : ∀ u : Kin wr, u.at'.cell? _ = _ := Kin.cell q1
    have y2 : ∀ u : Kin wr, u.at'.cell? _ = _ := Kin.cell q2
    have y3 : ∀ u : Kin wr, u.at'.cell? _ = _ := Kin.cell q3
    have y4 : ∀ u : Kin wr, u.at'.cell? _ = _ := Kin.cell q4
    have y5 : ∀ u : Kin wr, u.at'.cell? _ = _ := Kin.cell q5
    have y6 : ∀ u : Kin wr, u.at'.cell? _ = _ := Kin.cell h0
    have y7 : ∀ u : Kin wr, u.at'.cell? _ = _ := Kin.cell h1
    clear hI q0 q1 q2 q3 q4 q5 HE
    cases b1 with
    | false =>
     rw [if_neg (by simp)] at h
     obtain rfl := Option.some.inj h
     go_wp2_with fail
     refine region_kin (by kernel_rfl) (by kernel_rfl) ?_
     repeat (go_big_quiet_step ((first | (go_at_call 36; first | exact Kin.call (d1 _) | exact Kin.same (d1 _) | exact Kin.call ((d1 _).mono fun _ _ q => ⟨q.1, q.2.below⟩)))))
     refine wpQuiet_nil ?_
     rintro w6 ⟨⟨_, b6⟩, rfl⟩
     replace HX := Aside0.mk (below_step HX.out b6)
     clear y0 y1 y2 y3 y4 y5 y6 y7 d1 hb b6 hC h0 h1 T2
     go_wp2
     go_ret
     exact ⟨rfl, HX.out⟩
    | true =>
     rw [if_pos rfl] at h
     rcases hJ : rollcallref17_place.f g l0_0 false x.f0 with _ | n1
     ·rw [hJ] at h; exact absurd h (by simp)
     rw [hJ] at h
     simp only [Option.bind_some] at h
     have d2 := fun u : Kin wr => rollcallref17_place.calls g _ c0_0 l0_0 false x.f0 n1 u.at' (Kd.C_below hC u.bel) HC.out hJ
     clear hJ hC
     by_cases hn : n1 = (i : Int)
     rotate_left
     ·rw [if_neg hn] at h
      obtain rfl := Option.some.inj h
      go_wp2_with fail
      refine region_kin (by kernel_rfl) (by kernel_rfl) ?_
      repeat (go_big_quiet_step ((first | (go_at_call 36; first | exact Kin.call (d1 _) | exact Kin.same (d1 _) | exact Kin.call ((d1 _).mono fun _ _ q => ⟨q.1, q.2.below⟩)) | (go_at_call 65; first | exact Kin.call (d2 _) | exact Kin.same (d2 _) | exact Kin.call ((d2 _).mono fun _ _ q => ⟨q.1, q.2.below⟩)))))
      refine wpQuiet_nil ?_
      rintro w6 ⟨⟨_, b6⟩, rfl⟩
      replace HX := Aside0.mk (below_step HX.out b6)
      clear y0 y1 y2 y3 y4 y5 y6 y7 d1 d2 hb b6 h0 h1 T2
      go_wp2
      go_ret
      exact ⟨rfl, HX.out⟩
     ·rw [if_pos hn] at h
      go_wp2_with fail
      refine region_kin (by kernel_rfl) (by kernel_rfl) ?_
      repeat (go_big_quiet_step ((first | (go_at_call 36; first | exact Kin.call (d1 _) | exact Kin.same (d1 _) | exact Kin.call ((d1 _).mono fun _ _ q => ⟨q.1, q.2.below⟩)) | (go_at_call 65; first | exact Kin.call (d2 _) | exact Kin.same (d2 _) | exact Kin.call ((d2 _).mono fun _ _ q => ⟨q.1, q.2.below⟩)))))
      refine wpQuiet_nil ?_
      rintro w6 ⟨⟨_, b6⟩, rfl⟩
      rw [show wrap64 ((i : Int) + 1) = ((i + 1 : Nat) : Int) by unfold wrap64; omega] at h
      have HN := Aside0.mk h
      have HB := Aside0.mk (below_step hb.out b6)
      have hw : IntKind.i64.wrap ((i : Int) + 1) = (i : Int) + 1 := by rw [IntKind.wrap_i64]; omega
      clear y0 y1 y2 y3 y4 y5 y6 y7 d1 d2 hb b6 h h0 h1 T2
      go_wp2
      go_roundg g
      case measure => omega
      case rel => exact ⟨i + 1, by first | rfl | (congr 1), by omega, HN, HB⟩
   ·rw [if_neg hlt] at h
    obtain rfl := Option.some.inj h
    have hlt' : (l0_0.length : Int) ≤ (i : Int) := by omega
    clear h hlt
    go_wp2
    go_ret
    exact ⟨rfl, HX.out⟩
 ·obtain rfl : l0_0 = [] := List.length_eq_zero_iff.1 hl0
  have he1 : ¬ a1 < 0 := by have := e1'; simp at this; omega
  have he2 : decide (a1 < 0) = false := decide_eq_false he1
  go_wp2
  go_loopg [5] (k) (fun g x wr => ∃ i : Nat, x = .int .i64 i ∧ i ≤ ([] : List (S34)).length ∧ Aside0 (rollcallref17_May.l0 g (i : Int) ([] : List (S34)) true = some r) ∧ Aside0 (Below w1.heap.size w1 wr))
  case atStart => exact ⟨0, rfl, Nat.zero_le _, HH, HB⟩
  case round =>
   obtain ⟨i, rfl, hi, hh, hb⟩ := hrel
   clear HH HB
   obtain ⟨g, rfl⟩ : ∃ g, gk = g + 1 := by
    cases gk with
    | zero => exact absurd hh.out (by simp [rollcallref17_May.l0])
    | succ g => exact ⟨g, rfl⟩
   have h := hh.out
   clear hh
   have T2 := blk_below HT.out hb.out
   have h0 := (blk_cell T2 0).trans rfl
   have h1 := (blk_cell T2 1).trans rfl
   replace HX := Aside0.mk (below_step HX.out hb.out)
   rw [rollcallref17_May.l0] at h
   by_cases hlt : (i : Int) < (([] : List (S34)).length : Int)
   ·exact absurd hlt (by simp)
   ·rw [if_neg hlt] at h
    obtain rfl := Option.some.inj h
    have hlt' : (([] : List (S34)).length : Int) ≤ (i : Int) := by omega
    clear h hlt hlt'
    go_wp2
    go_ret
    exact ⟨rfl, HX.out⟩
end Go.Proofs.Ytmigglldahkngaa.PA
end

section
/- Small laws that every plain part wants: wraps, texts by their bytes, rows of a list. -/

namespace Go.Proofs.Ytmigglldahkngaa.XGen
open Go.RowKit Go.Proofs.YtmigglldahkngaaW.PrintWords Go.Proofs.YtmigglldahkngaaW.PrintLast Go.Proofs.YtmigglldahkngaaW.PrintMore
set_option linter.unusedVariables false
set_option linter.unusedSimpArgs false
theorem wrap_id (n : Int) (h0 : -9223372036854775808 ≤ n) (h1 : n ≤ 9223372036854775807) : wrap64 n = n := by unfold wrap64; omega
theorem wrap_succ (n : Nat) (h : n < 9223372036854775807) : wrap64 ((n : Int) + 1) = ((n + 1 : Nat) : Int) := by unfold wrap64; omega
theorem size_len (s : ByteArray) : s.size = s.data.toList.length := by rw [Array.length_toList]; rfl
theorem ba_ext {a b : ByteArray} (h : a.data.toList = b.data.toList) : a = b := by
 apply ByteArray.ext
 exact Array.toList_inj.1 h
theorem ba_ext' {a b : ByteArray} (h : a.toList = b.toList) : a = b := ba_ext (by rw [← Lib.toList_data, ← Lib.toList_data]; exact h)
theorem toList_inj {a b : ByteArray} : a.toList = b.toList ↔ a = b := ⟨ba_ext', fun h => by rw [h]⟩
theorem drop_get {α : Type} (l : List α) (i : Nat) (h : i < l.length) : l.drop i = l[i] :: l.drop (i + 1) := List.drop_eq_getElem_cons h
theorem getD_lt {α : Type} (l : List α) (z : α) (i : Nat) (h : i < l.length) : l.getD i z = l[i] := by rw [List.getD_eq_getElem?_getD, List.getElem?_eq_getElem h]; rfl
end Go.Proofs.Ytmigglldahkngaa.XGen
end

section
/- Queues in plain lists: what the printed functions of queue, and of its reference, answer. -/
namespace Go.Proofs.Ytmigglldahkngaa.XV17
open Go.RowKit Go.Proofs.Ytmigglldahkngaa.PA Go.Proofs.YtmigglldahkngaaW.PrintWords Go.Proofs.YtmigglldahkngaaW.PrintLast Go.Proofs.Ytmigglldahkngaa.XGen
open Go.Proofs.Ytmigglldahkngaa.XPlace (idx is)
open Go.Proofs.Ytmigglldahkngaa.XIdent (isB okAt)
open Go.Proofs.Ytmigglldahkngaa.XMay (mayB numsB)
open Go.Proofs.Ytmigglldahkngaa.XOdd (odd)
set_option linter.unusedVariables false
set_option linter.unusedSimpArgs false
abbrev Ch := S34
theorem is_iff {n : ByteArray} {x : Ch} : is n x = true ↔ x.f0 = n := by simp [is, toList_inj]
theorem idx_no (p : Ch → Bool) : ∀ (l : List Ch) (i : Int), 0 ≤ i → (idx p l i = -1 ∧ ∀ x ∈ l, p x = false) ∨ ∃ (k : Nat) (h : k < l.length), idx p l i = i + k ∧ (∀ (j : Nat) (hj : j < l.length), j < k → p l[j] = false) ∧ p l[k] = true
 | [], i, _ => .inl ⟨rfl, fun x hx => by cases hx⟩
 | x :: t, i, h => by
  rw [idx]
  by_cases c : p x = true
  ·rw [if_pos c]
   exact .inr ⟨0, by simp, by simp, fun j _ hj => absurd hj (Nat.not_lt_zero j), c⟩
  ·rw [if_neg c]
   rcases idx_no p t (i + 1) (by omega) with ⟨h1, h2⟩ | ⟨k, h1, h2, h3, h5⟩
   ·refine .inl ⟨h1, fun y hy => ?_⟩
    rcases List.mem_cons.1 hy with rfl | hy
    ·exact Bool.eq_false_iff.mpr c
    ·exact h2 y hy
   ·refine .inr ⟨k + 1, by simp; omega, by rw [h2]; simp; omega, fun j hj hjk => ?_, by simpa using h5⟩
    cases j with
    | zero => simpa using c
    | succ j => simp only [List.getElem_cons_succ]; exact h3 j _ (by omega)
theorem rd_at (l : List Ch) (j : Nat) (h : j < l.length) : rd_T34 l (j : Int) = l[j] := by
 unfold rd_T34
 rw [Int.toNat_natCast, getD_lt l _ j h]
/-! ## places -/
theorem place_f (l : List Ch) (n : ByteArray) : api_Change_string.f l n = some (idx (is n) l 0, decide (0 ≤ idx (is n) l 0)) := rfl
theorem refPlaceL (l : List Ch) (n : ByteArray) (b : Bool) (hl : l.length ≤ 1000000) : ∀ (d k j : Nat), j + d = l.length → d < k → rollcallref17_place.l0 k n (j : Int) l b = some (idx (is n) (l.drop j) j) := by
 intro d
 induction d with
 | zero =>
  intro k j hj hk
  obtain ⟨k, rfl⟩ : ∃ m, k = m + 1 := ⟨k - 1, by omega⟩
  rw [rollcallref17_place.l0, if_neg (by omega), List.drop_eq_nil_of_le (by omega)]
  rfl
 | succ d ih =>
  intro k j hj hk
  obtain ⟨k, rfl⟩ : ∃ m, k = m + 1 := ⟨k - 1, by omega⟩
  rw [rollcallref17_place.l0, if_pos (by omega), if_pos (by omega), rd_at l j (by omega), drop_get l j (by omega), wrap_succ j (by omega), ih k (j + 1) (by omega) (by omega), idx]
  by_cases c : l[j].f0.toList = n.toList
  ·rw [if_pos c, if_pos (by simp [is, c])]
  ·rw [if_neg c, if_neg (by simp [is, c])]
   rfl
theorem refPlace_f (k : Nat) (l : List Ch) (n : ByteArray) (b : Bool) (hl : l.length ≤ 1000000) (hk : l.length < k) : rollcallref17_place.f k l b n = some (idx (is n) l 0) := refPlaceL l n b hl l.length k 0 (by omega) hk
/-! ## what may be -/
def z4 (x : Ch) : Bool := x.f2.f0 == 0 && (x.f2.f1 == 0 && (x.f2.f2 == 0 && (x.f2.f3.toList == ([] : List UInt8))))
def oneB (x : Ch) : Bool := isB x.f0 && if x.f1 = true then mayB x.f2.f0 x.f2.f1 x.f2.f2 x.f2.f3 else z4 x
theorem one_f (x : Ch) (h : x.f0.size ≤ 9223372036854775807) : queue_One.f x.f0 x.f1 x.f2.f0 x.f2.f1 x.f2.f2 x.f2.f3 = some (oneB x) := by
 unfold queue_One.f oneB
 have e : ident_Is.f x.f0 = some (isB x.f0) := by show XIdent.ident_Is.f x.f0 = _; unfold XIdent.ident_Is.f; rw [if_pos h]
 have e2 : value_May.f x.f2.f0 x.f2.f1 x.f2.f2 x.f2.f3 = some (mayB x.f2.f0 x.f2.f1 x.f2.f2 x.f2.f3) := rfl
 rw [e, e2]
 simp only [Option.bind_some]
 cases x.f1 <;> cases isB x.f0 <;> rfl
theorem refMayL (a0 a1 a2 : Int) (s : ByteArray) (hs : s.size ≤ 1000) : ∀ (d k j : Nat), j + d = s.size → d < k → rollcallref04_May.l0 k (j : Int) a0 a1 a2 s = some (!(((bytesOf s).drop j).any odd)) := by
 intro d
 induction d with
 | zero =>
  intro k j hj hk
  obtain ⟨k, rfl⟩ : ∃ m, k = m + 1 := ⟨k - 1, by omega⟩
  rw [rollcallref04_May.l0, if_neg (by omega), List.drop_eq_nil_of_le (by rw [bytesOf_length]; omega)]
  rfl
 | succ d ih =>
  intro k j hj hk
  obtain ⟨k, rfl⟩ : ∃ m, k = m + 1 := ⟨k - 1, by omega⟩
  have hb : (bytesOf s).drop j = bt s (j : Int) :: (bytesOf s).drop (j + 1) := by
   rw [List.drop_eq_getElem_cons (by rw [bytesOf_length]; omega)]
   congr 1
   unfold bytesOf bt
   rw [List.getElem_map, dif_pos (by rw [Int.toNat_natCast]; omega)]
   rfl
  rw [rollcallref04_May.l0, if_pos (by omega), if_pos (by omega), hb, List.any_cons]
  unfold odd
  by_cases c1 : bt s (j : Int) < 32
  ·rw [if_pos c1]; simp [c1]
  ·rw [if_neg c1]
   by_cases c2 : bt s (j : Int) > 126
   ·rw [if_pos c2]; simp [c2]
   ·rw [if_neg c2, wrap_succ j (by omega), ih k (j + 1) (by omega) (by omega)]
    have e : (decide (bt s (j : Int) < 32) || decide (126 < bt s (j : Int))) = false := by simp; omega
    rw [e]
    rfl
theorem may_off {a0 a1 a2 : Int} {a3 : ByteArray} (h : ¬ (1 ≤ a0 ∧ a0 ≤ 4 ∧ -128 ≤ a1 ∧ a1 ≤ 127 ∧ 0 ≤ a2 ∧ a2 ≤ 1099511627776 ∧ a3.size ≤ 32)) : mayB a0 a1 a2 a3 = false := by
 unfold mayB
 rw [if_neg (show ¬ numsB a0 a1 a2 a3 from h)]
theorem may_on {a0 a1 a2 : Int} {a3 : ByteArray} (h : 1 ≤ a0 ∧ a0 ≤ 4 ∧ -128 ≤ a1 ∧ a1 ≤ 127 ∧ 0 ≤ a2 ∧ a2 ≤ 1099511627776 ∧ a3.size ≤ 32) : mayB a0 a1 a2 a3 = !((bytesOf a3).any odd) := by
 unfold mayB
 rw [if_pos (show numsB a0 a1 a2 a3 from h)]
theorem refMay_f (k : Nat) (a0 a1 a2 : Int) (a3 : ByteArray) (hk : 40 ≤ k) : rollcallref04_May.f k a0 a1 a2 a3 = some (mayB a0 a1 a2 a3) := by
 obtain ⟨k, rfl⟩ : ∃ m, k = m + 1 := ⟨k - 1, by omega⟩
 unfold rollcallref04_May.f
 have ht : rollcallref04_May.j0 (k + 1) true a0 a1 a2 a3 = some false := by rw [rollcallref04_May.j0, if_pos rfl]
 by_cases c : 1 ≤ a0 ∧ a0 ≤ 4 ∧ -128 ≤ a1 ∧ a1 ≤ 127 ∧ 0 ≤ a2 ∧ a2 ≤ 1099511627776 ∧ a3.size ≤ 32
 ·rw [may_on c, if_neg (by omega), if_neg (by omega), if_neg (by omega), if_neg (by omega), if_neg (by omega), if_neg (by omega), rollcallref04_May.j0, if_neg (by simp; omega)]
  exact refMayL a0 a1 a2 a3 (by omega) a3.size k 0 (by omega) (by omega)
 ·rw [may_off c, ht]
  by_cases h1 : a0 < 1
  ·rw [if_pos h1]
  rw [if_neg h1]
  by_cases h2 : a0 > 4
  ·rw [if_pos h2]
  rw [if_neg h2]
  by_cases h3 : a1 < -128
  ·rw [if_pos h3]
  rw [if_neg h3]
  by_cases h4 : a1 > 127
  ·rw [if_pos h4]
  rw [if_neg h4]
  by_cases h5 : a2 < 0
  ·rw [if_pos h5]
  rw [if_neg h5]
  by_cases h6 : a2 > 1099511627776
  ·rw [if_pos h6]
  rw [if_neg h6]
  have e : decide ((a3.size : Int) > 32) = true := by simp; omega
  rw [e, ht]
def okR (s : ByteArray) (j : Nat) : Prop := (97 ≤ bt s j ∧ bt s j ≤ 122) ∨ (48 ≤ bt s j ∧ bt s j ≤ 57) ∨ bt s j = 45
instance (s : ByteArray) (j : Nat) : Decidable (okR s j) := by unfold okR; infer_instance
theorem refIsL (s : ByteArray) (hs : s.size ≤ 1000) : ∀ (d k j : Nat), j + d = s.size → d < k → rollcallref03_Is.l0 k s (j : Int) = some ((List.range' j d).all fun i => decide (okR s i)) := by
 intro d
 induction d with
 | zero =>
  intro k j hj hk
  obtain ⟨k, rfl⟩ : ∃ m, k = m + 1 := ⟨k - 1, by omega⟩
  rw [rollcallref03_Is.l0, if_neg (by omega)]
  rfl
 | succ d ih =>
  intro k j hj hk
  obtain ⟨k, rfl⟩ : ∃ m, k = m + 1 := ⟨k - 1, by omega⟩
  rw [rollcallref03_Is.l0, if_pos (by omega), if_pos (by omega), wrap_succ j (by omega), ih k (j + 1) (by omega) (by omega), List.range'_succ, List.all_cons]
  by_cases c : okR s j
  ·have e : decide (okR s j) = true := by simp [c]
   rw [e, Bool.true_and]
   unfold okR at c
   repeat' split
   all_goals first | rfl | (exfalso; omega)
  ·have e : decide (okR s j) = false := by simp [c]
   rw [e, Bool.false_and]
   unfold okR at c
   repeat' split
   all_goals first | rfl | (exfalso; omega)
theorem refIs_f (k : Nat) (s : ByteArray) (hk : 30 ≤ k) : rollcallref03_Is.f k s = some (isB s) := by
 obtain ⟨k, rfl⟩ : ∃ m, k = m + 1 := ⟨k - 1, by omega⟩
 unfold rollcallref03_Is.f isB
 have ht : rollcallref03_Is.j0 (k + 1) s true = some false := by rw [rollcallref03_Is.j0, if_pos rfl]
 by_cases h1 : (s.size : Int) < 1
 ·rw [if_pos h1, ht]
  have : decide (0 < s.size ∧ s.size ≤ 16) = false := by simp; omega
  rw [this, Bool.false_and]
 rw [if_neg h1]
 by_cases h2 : (s.size : Int) > 16
 ·rw [if_pos h2, ht]
  have : decide (0 < s.size ∧ s.size ≤ 16) = false := by simp; omega
  rw [this, Bool.false_and]
 rw [if_neg h2, if_pos (by omega)]
 have e1 : decide (0 < s.size ∧ s.size ≤ 16) = true := by simp; omega
 rw [e1, Bool.true_and]
 have e0 : ∀ b : Bool, b = decide (okAt s 0) → (List.range s.size).all (fun j => decide (okAt s j)) = (b && (List.range' 0 s.size).all fun i => decide (okR s i)) := by
  intro b hb
  rw [hb]
  obtain ⟨m, hm⟩ : ∃ m, s.size = m + 1 := ⟨s.size - 1, by omega⟩
  rw [hm, List.range_eq_range', List.range'_succ, List.all_cons, List.all_cons]
  have e2 : (List.range' (0 + 1) m).all (fun j => decide (okAt s j)) = (List.range' (0 + 1) m).all (fun i => decide (okR s i)) := by
   rw [Bool.eq_iff_iff, List.all_eq_true, List.all_eq_true]
   constructor
   ·intro h i hi
    have := h i hi
    have hi' := (List.mem_range'_1.1 hi).1
    simp only [decide_eq_true_eq] at this ⊢
    unfold okAt at this
    unfold okR
    omega
   ·intro h i hi
    have := h i hi
    have hi' := (List.mem_range'_1.1 hi).1
    simp only [decide_eq_true_eq] at this ⊢
    unfold okR at this
    unfold okAt
    omega
  rw [e2]
  by_cases c : okAt s 0
  ·have : okR s 0 := by unfold okAt at c; unfold okR; omega
   simp [c, this]
  ·simp [c]
 by_cases h3 : bt s 0 < 97
 ·rw [if_pos h3, ht, e0 false (by unfold okAt; simp; omega)]
  rfl
 rw [if_neg h3]
 by_cases h4 : bt s 0 > 122
 ·have e : decide (bt s 0 > 122) = true := by simp; omega
  rw [e, ht, e0 false (by unfold okAt; simp; omega)]
  rfl
 ·have e : decide (bt s 0 > 122) = false := by simp; omega
  rw [e, rollcallref03_Is.j0, if_neg (by simp), e0 true (by unfold okAt; simp; omega), Bool.true_and]
  exact refIsL s (by omega) s.size k 0 (by omega) (by omega)
theorem refOne_f (k : Nat) (x : Ch) (hk : 40 ≤ k) : rollcallref17_One.f k x.f0 x.f1 x.f2.f0 x.f2.f1 x.f2.f2 x.f2.f3 = some (oneB x) := by
 unfold rollcallref17_One.f oneB
 rw [refIs_f k _ (by omega), refMay_f k _ _ _ _ hk]
 simp only [Option.bind_some]
 cases x.f1 <;> cases isB x.f0 <;> rfl
/-- No two of one contact. -/
def Apart (l : List Ch) : Prop := ∀ (i j : Nat) (hi : i < l.length) (hj : j < l.length), j < i → l[j].f0 ≠ l[i].f0
/-! ## pushes -/
def PU (l : List Ch) (lat : Bool) (c : Ch) (room : Int) : List Ch × Bool :=
 if lat = true then (l, lat) else if 0 ≤ idx (is c.f0) l 0 then (l.set (idx (is c.f0) l 0).toNat c, false) else if (l.length : Int) < room then (l ++ [c], false) else ([], true)
theorem idx_lt (p : Ch → Bool) (l : List Ch) : idx p l 0 < (l.length : Int) := by
 rcases idx_no p l 0 (by omega) with ⟨h, _⟩ | ⟨m, hm, h, _⟩
 ·rw [h]; omega
 ·rw [h]; omega
theorem push_f (l : List Ch) (lat : Bool) (c : Ch) (room : Int) (hl : l.length ≤ 1000000) : queue_Push.f l lat c.f0 c.f1 c.f2.f0 c.f2.f1 c.f2.f2 c.f2.f3 room = some (PU l lat c room) := by
 unfold queue_Push.f PU
 cases lat with
 | true => rw [if_pos rfl, if_pos rfl]
 | false =>
  have e1 : api_Change_66.f l = some l := by
   show XCloneChg.slices_Clone.f l = _
   unfold XCloneChg.slices_Clone.f
   rw [if_pos (by omega)]
  have e2 : api_Change_67.f [l, [c]] = some (l ++ [c]) := by
   show XConcatChg.slices_Concat.f [l, [c]] = _
   unfold XConcatChg.slices_Concat.f
   rw [if_pos (by simp; omega)]
   simp
  have e3 : (⟨c.f0, c.f1, (⟨c.f2.f0, c.f2.f1, c.f2.f2, c.f2.f3⟩ : S32)⟩ : Ch) = c := rfl
  simp only [Bool.false_eq_true, if_false, place_f, e1, e3, Option.bind_some, decide_eq_true_eq]
  by_cases c1 : 0 ≤ idx (is c.f0) l 0
  ·rw [if_pos c1, if_pos c1, if_pos c1, if_pos (idx_lt _ l)]
  ·rw [if_neg c1, if_neg c1]
   by_cases c2 : (l.length : Int) < room
   ·rw [if_pos c2, if_pos c2, e2]
    rfl
   ·rw [if_neg c2, if_neg c2]
/-! ## the same -/
theorem sameL (l : List Ch) (hl : l.length ≤ 1000000) : ∀ (d k j : Nat), j + d = l.length → d < k → rollcallref05_SameChanges.l0 k l l (j : Int) = some true := by
 intro d
 induction d with
 | zero =>
  intro k j hj hk
  obtain ⟨k, rfl⟩ : ∃ m, k = m + 1 := ⟨k - 1, by omega⟩
  rw [rollcallref05_SameChanges.l0, if_neg (by omega)]
 | succ d ih =>
  intro k j hj hk
  obtain ⟨k, rfl⟩ : ∃ m, k = m + 1 := ⟨k - 1, by omega⟩
  rw [rollcallref05_SameChanges.l0, if_pos (by omega), if_pos (by omega), if_pos (by omega), if_neg (by simp), wrap_succ j (by omega)]
  exact ih k (j + 1) (by omega) (by omega)
theorem same_f (k : Nat) (l : List Ch) (b : Bool) (hl : l.length ≤ 1000000) (hk : l.length < k) : rollcallref17_Same.f k l b l b = some true := by
 unfold rollcallref17_Same.f rollcallref05_SameChanges.f
 have h0 := sameL l hl l.length k 0 (by omega) hk
 rw [Int.natCast_zero] at h0
 rw [if_pos (by simp), if_pos rfl, h0]
 rfl
theorem changesL (l : List Ch) (hl : l.length ≤ 1000000) : ∀ (d k j : Nat), j + d = l.length → d < k → ∃ b, rollcallref17_Changes.l0 k l (j : Int) = some b := by
 intro d
 induction d with
 | zero =>
  intro k j hj hk
  obtain ⟨k, rfl⟩ : ∃ m, k = m + 1 := ⟨k - 1, by omega⟩
  rw [rollcallref17_Changes.l0, if_neg (by omega)]
  exact ⟨_, rfl⟩
 | succ d ih =>
  intro k j hj hk
  obtain ⟨k, rfl⟩ : ∃ m, k = m + 1 := ⟨k - 1, by omega⟩
  rw [rollcallref17_Changes.l0, if_pos (by omega), if_pos (by omega), wrap_succ j (by omega)]
  split
  ·exact ⟨_, rfl⟩
  ·split
   ·exact ⟨_, rfl⟩
   ·exact ih k (j + 1) (by omega) (by omega)
theorem changes_f (k : Nat) (l : List Ch) (most : Int) (hm : most ≤ 1000000) (hk : most.toNat < k) : ∃ b, rollcallref17_Changes.f k l most = some b ∧ (b = true → (l.length : Int) ≤ most) := by
 unfold rollcallref17_Changes.f
 by_cases c : (l.length : Int) > most
 ·rw [if_pos c]
  exact ⟨_, rfl, fun h => by cases h⟩
 ·rw [if_neg c]
  obtain ⟨b, hb⟩ := changesL l (by omega) l.length k 0 (by omega) (by omega)
  exact ⟨b, hb, fun _ => by omega⟩
theorem few_f (k : Nat) (l : List Ch) (b : Bool) (hk : 60 ≤ k) : ∃ q, rollcallref17_Few.f k l b = some q ∧ (q = true → l.length ≤ 30) := by
 unfold rollcallref17_Few.f
 obtain ⟨q, hq, h⟩ := changes_f k l 30 (by omega) (by omega)
 rw [hq]
 exact ⟨q, rfl, fun e => by have := h e; omega⟩
end Go.Proofs.Ytmigglldahkngaa.XV17
end

section
/- Numbers, names and presences as bytes, in plain functions: what the printed functions that write them answer. -/
namespace Go.Proofs.Ytmigglldahkngaa.XPut
open Go.RowKit Go.Proofs.YtmigglldahkngaaW.PrintWords Go.Proofs.YtmigglldahkngaaW.PrintLast Go.Proofs.YtmigglldahkngaaW.PrintMore Go.Proofs.Ytmigglldahkngaa.PA Go.Proofs.Ytmigglldahkngaa.XVar Go.Proofs.Ytmigglldahkngaa.XBytes
open Go.Proofs.Ytmigglldahkngaa.XMay (mayB numsB)
open Go.Proofs.Ytmigglldahkngaa.XIdent (isB okAt)
open Go.Proofs.Ytmigglldahkngaa.XOdd (odd)
open Go.Proofs.Ytmigglldahkngaa.XV17 (refMay_f refIs_f)
set_option linter.unusedVariables false
set_option linter.unusedSimpArgs false
theorem putL : ∀ (d k : Nat) (n : Int) (xs : List Int), 0 ≤ n → n < pw (d + 1) → d < k → xs.length + d + 1 < 140737488355328 → varint_Put.l0 k n xs = some (strOfNums (xs ++ digs (d + 1) n))
 | d, 0, n, xs, _, _, hk, _ => by omega
 | d, k + 1, n, xs, h0, h1, hk, hl => by
  rw [varint_Put.l0, digs]
  by_cases c : n ≥ 128
  ·rw [if_pos c, if_pos (by omega), if_pos c, or128]
   cases d with
   | zero =>
    simp only [pw] at h1
    omega
   | succ d =>
    rw [putL d k (n / 128) _ (by omega) (by simp only [pw] at h1 ⊢; omega) (by omega) (by simp only [List.length_append, List.length_singleton]; omega), List.append_assoc, List.singleton_append]
  ·rw [if_neg c, if_pos (by omega), if_neg c, show n % 256 = n by omega]
theorem tdiv128 (n : Int) (h0 : 0 ≤ n) : Int.tdiv n 128 = n / 128 := Int.tdiv_eq_ediv_of_nonneg h0
theorem tmod128 (n : Int) (h0 : 0 ≤ n) : Int.tmod n 128 = n % 128 := Int.tmod_eq_emod_of_nonneg h0
theorem refPutL : ∀ (d k : Nat) (n : Int) (xs : List Int), 0 ≤ n → n < pw (d + 1) → n < 18446744073709551616 → d < k → xs.length + d + 1 < 140737488355328 → rollcallref01_Put.l0 k n xs = some (strOfNums (xs ++ digs (d + 1) n))
 | d, 0, n, xs, _, _, _, hk, _ => by omega
 | d, k + 1, n, xs, h0, h1, h2, hk, hl => by
  rw [rollcallref01_Put.l0, digs]
  by_cases c : n ≥ 128
  ·rw [if_pos c, if_pos (by omega), if_pos c, tdiv128 n h0, tmod128 n h0, wrap_u64 (n / 128) (by omega) (by omega), wrap_u64 (128 + n % 128) (by omega) (by omega), show (128 + n % 128) % 256 = 128 + n % 128 by omega]
   cases d with
   | zero =>
    simp only [pw] at h1
    omega
   | succ d =>
    rw [refPutL d k (n / 128) _ (by omega) (by simp only [pw] at h1 ⊢; omega) (by omega) (by omega) (by simp only [List.length_append, List.length_singleton]; omega), List.append_assoc, List.singleton_append]
  ·rw [if_neg c, if_pos (by omega), if_neg c, show n % 256 = n by omega]
/-- A number's bytes, as a text. -/
def P (n : Int) : ByteArray := strOfNums (digs 10 n)
theorem pw10 : pw 10 = 1180591620717411303424 := by decide
theorem put_f (k : Nat) (n : Int) (h0 : 0 ≤ n) (h1 : n < 18446744073709551616) (hk : 10 ≤ k) : varint_Put.f k n = some (P n) := by
 unfold varint_Put.f P
 rw [putL 9 k n [] h0 (by rw [pw10]; omega) (by omega) (by simp)]
 rfl
theorem refPut_f (k : Nat) (n : Int) (h0 : 0 ≤ n) (h1 : n < 18446744073709551616) (hk : 10 ≤ k) : rollcallref01_Put.f k n = some (P n) := by
 unfold rollcallref01_Put.f P
 rw [refPutL 9 k n [] h0 (by rw [pw10]; omega) h1 (by omega) (by simp)]
 rfl
theorem P_size (n : Int) : (P n).size = (digs 10 n).length := strOfNums_size _
theorem P_le (n : Int) : (P n).size ≤ 10 := by rw [P_size]; exact digs_len 10 n
theorem P_pos (n : Int) : 1 ≤ (P n).size := by rw [P_size]; exact digs_pos 9 n
theorem text_f (k : Nat) (s : ByteArray) (hs : s.size ≤ 140737488351232) (hk : 10 ≤ k) : varint_Text.f k s = some (P s.size ++ s) := by
 unfold varint_Text.f
 rw [wrap_u64 _ (by omega) (by omega), put_f k _ (by omega) (by omega) hk]
 simp only [Option.bind_some]
 rw [if_pos (by have := P_le s.size; omega)]
theorem refText_f (k : Nat) (s : ByteArray) (hs : s.size ≤ 140737488351232) (hk : 10 ≤ k) : rollcallref01_Text.f k s = some (P s.size ++ s) := by
 unfold rollcallref01_Text.f
 rw [wrap_u64 _ (by omega) (by omega), refPut_f k _ (by omega) (by omega) hk]
 simp only [Option.bind_some]
 rw [if_pos (by have := P_le s.size; omega)]

def cat : List ByteArray → ByteArray
 | [] => ⟨#[]⟩
 | a :: r => a ++ cat r
theorem nil_app (a : ByteArray) : (⟨#[]⟩ : ByteArray) ++ a = a := ba_ext (by rw [app_data]; rfl)
theorem app_nil (a : ByteArray) : a ++ (⟨#[]⟩ : ByteArray) = a := ba_ext (by rw [app_data]; simp)
theorem cat_app (a b : List ByteArray) : cat (a ++ b) = cat a ++ cat b := by
 induction a with
 | nil => rw [List.nil_append]; exact (nil_app _).symm
 | cons x r ih => rw [List.cons_append, cat, ih, cat, app_assoc]
theorem cat_snoc (l : List ByteArray) (a : ByteArray) : cat (l ++ [a]) = cat l ++ a := by rw [cat_app, cat, cat, app_nil]
theorem cat_take (l : List ByteArray) (i : Nat) (h : i < l.length) : cat (l.take (i + 1)) = cat (l.take i) ++ l[i] := by
 rw [List.take_succ_eq_append_getElem h, cat_snoc]
theorem cat_size (l : List ByteArray) (B : Nat) (h : ∀ a ∈ l, a.size ≤ B) : (cat l).size ≤ l.length * B := by
 induction l with
 | nil => show (0 : Nat) ≤ _; omega
 | cons x r ih =>
  rw [cat, app_size]
  have h1 := h x (List.mem_cons_self ..)
  have h2 := ih (fun a ha => h a (List.mem_cons_of_mem _ ha))
  rw [List.length_cons, Nat.add_mul]
  omega
def X (s : ByteArray) : ByteArray := P s.size ++ s
theorem X_size (s : ByteArray) : (X s).size = (P s.size).size + s.size := app_size ..
theorem may_nums {a0 a1 a2 : Int} {a3 : ByteArray} (h : mayB a0 a1 a2 a3 = true) : 1 ≤ a0 ∧ a0 ≤ 4 ∧ -128 ≤ a1 ∧ a1 ≤ 127 ∧ 0 ≤ a2 ∧ a2 ≤ 1099511627776 ∧ a3.size ≤ 32 := by
 unfold mayB at h
 by_cases c : numsB a0 a1 a2 a3
 ·exact c
 ·rw [if_neg c] at h; cases h
theorem may_f (a0 a1 a2 : Int) (a3 : ByteArray) : value_May.f a0 a1 a2 a3 = some (mayB a0 a1 a2 a3) := rfl
def Vb (a0 a1 a2 : Int) (a3 : ByteArray) : ByteArray := (strOfNums [a0, a1 + 128] ++ P a2) ++ X a3
theorem Vb_size (a0 a1 a2 : Int) (a3 : ByteArray) : (Vb a0 a1 a2 a3).size = 2 + (P a2).size + ((P a3.size).size + a3.size) := by
 unfold Vb
 rw [app_size, app_size, strOfNums_size, X_size]
 rfl
def PV (a0 a1 a2 : Int) (a3 : ByteArray) : ByteArray × Bool := if mayB a0 a1 a2 a3 = true then (Vb a0 a1 a2 a3, true) else (⟨#[]⟩, false)
theorem put_v (k : Nat) (a0 a1 a2 : Int) (a3 : ByteArray) (hk : 10 ≤ k) : value_Put.f k a0 a1 a2 a3 = some (PV a0 a1 a2 a3) := by
 unfold value_Put.f PV
 rw [may_f]
 simp only [Option.bind_some]
 by_cases c : mayB a0 a1 a2 a3 = true
 ·obtain ⟨h1, h2, h3, h4, h5, h6, h7⟩ := may_nums c
  have hP := P_le a2
  have hP2 := P_le (a3.size : Int)
  rw [if_pos c, if_pos c, wrap_u64 a2 (by omega) (by omega), put_f k a2 (by omega) (by omega) hk, text_f k a3 (by omega) hk, wrap_id (a1 - -128) (by omega) (by omega), Int.emod_eq_of_lt (by omega) (by omega : a0 < 256), Int.emod_eq_of_lt (by omega) (by omega : a1 - -128 < 256)]
  simp only [Option.bind_some]
  rw [if_pos (by rw [strOfNums_size]; simp; omega), if_pos (by rw [app_size, app_size, strOfNums_size]; simp; omega), show a1 - -128 = a1 + 128 by omega]
  rfl
 ·rw [if_neg c, if_neg c]
theorem refPut_v (k : Nat) (a0 a1 a2 : Int) (a3 : ByteArray) (hk : 40 ≤ k) : rollcallref04_Put.f k a0 a1 a2 a3 = some (PV a0 a1 a2 a3) := by
 unfold rollcallref04_Put.f PV
 rw [refMay_f k a0 a1 a2 a3 hk]
 simp only [Option.bind_some]
 by_cases c : mayB a0 a1 a2 a3 = true
 ·obtain ⟨h1, h2, h3, h4, h5, h6, h7⟩ := may_nums c
  have hP := P_le a2
  have hP2 := P_le (a3.size : Int)
  rw [if_pos c, if_pos c, wrap_u64 a2 (by omega) (by omega), refPut_f k a2 (by omega) (by omega) (by omega), refText_f k a3 (by omega) (by omega), wrap_id (a1 + 128) (by omega) (by omega), Int.emod_eq_of_lt (by omega) (by omega : a0 < 256), Int.emod_eq_of_lt (by omega) (by omega : a1 + 128 < 256)]
  simp only [Option.bind_some]
  rw [if_pos (by rw [strOfNums_size]; simp; omega), if_pos (by rw [app_size, app_size, strOfNums_size]; simp; omega)]
  rfl
 ·rw [if_neg c, if_neg c]
def nameP (s : ByteArray) : ByteArray × Bool := if isB s = true then (X s, true) else (⟨#[]⟩, false)
theorem isB_size {s : ByteArray} (h : isB s = true) : s.size ≤ 16 := by
 unfold isB at h
 have h2 : decide (0 < s.size ∧ s.size ≤ 16) = true := by cases q : decide (0 < s.size ∧ s.size ≤ 16) <;> simp_all
 exact (of_decide_eq_true h2).2
theorem put_n (k : Nat) (s : ByteArray) (h : s.size ≤ 9223372036854775807) (hk : 10 ≤ k) : ident_Put.f k s = some (nameP s) := by
 unfold ident_Put.f nameP
 have e : ident_Is.f s = some (isB s) := by show XIdent.ident_Is.f s = _; unfold XIdent.ident_Is.f; rw [if_pos h]
 rw [e]
 simp only [Option.bind_some]
 by_cases c : isB s = true
 ·rw [if_pos c, if_pos c, text_f k s (by have := isB_size c; omega) hk]
  rfl
 ·rw [if_neg c, if_neg c]
theorem refPut_n (k : Nat) (s : ByteArray) (hk : 30 ≤ k) : rollcallref03_Put.f k s = some (nameP s) := by
 unfold rollcallref03_Put.f nameP
 rw [refIs_f k s hk]
 simp only [Option.bind_some]
 by_cases c : isB s = true
 ·rw [if_pos c, if_pos c, refText_f k s (by have := isB_size c; omega) (by omega)]
  rfl
 ·rw [if_neg c, if_neg c]
end Go.Proofs.Ytmigglldahkngaa.XPut
end

section
/- strings.Builder's methods at this program: the library's contracts, laid by hand where the kit's command leaves them (its structures name types that this program's bodies do not). -/
namespace Go.Proofs.Ytmigglldahkngaa.XBuilder
open Go.RowKit Go.Shelf Go.Proofs
def ren : Go.Shelf.Ren := ⟨fun | 166 => 98 | 169 => 102 | 240 => 104 | 276 => 106 | n => n, fun | 0 => 0 | 3 => 3 | 4 => 4 | 5 => 5 | 9 => 9 | 20 => 20 | 37 => 119 | 70 => 127 | 72 => 129 | 75 => 131 | 80 => 134 | 127 => 136 | 164 => 137 | n => n, fun | n => n⟩
theorem l166 : Lays.n166 Try.prog ren where
 mixed := by kernel_rfl
 f166 := Try.func98.trans (congrArg some (by kernel_rfl))
 f240 := Try.func104.trans (congrArg some (by kernel_rfl))
 f276 := Try.func106.trans (congrArg some (by kernel_rfl))
 t0 := Try.underlying0
 a0 := Try.isAgg0
 z0 := Try.sizeOf0
 v0 := Try.zeroValue0
 t3 := Try.underlying3
 a3 := Try.isAgg3
 z3 := Try.sizeOf3
 v3 := Try.zeroValue3
 t4 := Try.underlying4
 a4 := Try.isAgg4
 z4 := Try.sizeOf4
 v4 := Try.zeroValue4
 t9 := Try.underlying9
 a9 := Try.isAgg9
 z9 := Try.sizeOf9
 v9 := Try.zeroValue9
 t20 := Try.underlying20
 a20 := Try.isAgg20
 z20 := Try.sizeOf20
 v20 := Try.zeroValue20
 t37 := Try.underlying119
 a37 := Try.isAgg119
 z37 := Try.sizeOf119
 v37 := Try.zeroValue119
 t70 := Try.underlying127
 a70 := Try.isAgg127
 z70 := Try.sizeOf127
 v70 := Try.zeroValue127
 t72 := Try.underlying129
 a72 := Try.isAgg129
 z72 := Try.sizeOf129
 v72 := Try.zeroValue129
 t75 := Try.underlying131
 a75 := Try.isAgg131
 z75 := Try.sizeOf131
 v75 := Try.zeroValue131
 t164 := Try.underlying137
 a164 := Try.isAgg137
 z164 := Try.sizeOf137
 v164 := Try.zeroValue137
theorem l169 : Lays.n169 Try.prog ren where
 mixed := by kernel_rfl
 f169 := Try.func102.trans (congrArg some (by kernel_rfl))
 t0 := Try.underlying0
 a0 := Try.isAgg0
 z0 := Try.sizeOf0
 v0 := Try.zeroValue0
 t3 := Try.underlying3
 a3 := Try.isAgg3
 z3 := Try.sizeOf3
 v3 := Try.zeroValue3
 t9 := Try.underlying9
 a9 := Try.isAgg9
 z9 := Try.sizeOf9
 v9 := Try.zeroValue9
 t37 := Try.underlying119
 a37 := Try.isAgg119
 z37 := Try.sizeOf119
 v37 := Try.zeroValue119
 t70 := Try.underlying127
 a70 := Try.isAgg127
 z70 := Try.sizeOf127
 v70 := Try.zeroValue127
 t72 := Try.underlying129
 a72 := Try.isAgg129
 z72 := Try.sizeOf129
 v72 := Try.zeroValue129
 t127 := Try.underlying136
 a127 := Try.isAgg136
 z127 := Try.sizeOf136
 v127 := Try.zeroValue136
theorem ex : Builder.Extra Try.prog ren where
 sizeBuilder := by kernel_rfl
 liesBuilder := by kernel_rfl
 t5 := Try.underlying5
 a5 := Try.isAgg5
 z5 := Try.sizeOf5
 v5 := Try.zeroValue5
 infoByte := by kernel_rfl
 cellsByte := by kernel_rfl
 sizeByte := by kernel_rfl
 neB5 := by decide
/-- A builder that holds a text. -/
def Bld (B b : Nat) (s : ByteArray) (w : World) : Prop := Lib.IsBuilder 129 5 B b (Lib.strCells s) w
theorem Bld.new (w : World) : Bld w.heap.size w.heap.size ⟨#[]⟩ (w.alloc (.cells #[.pointer none, .slice none 0 0] 129)) := Lib.fresh_isBuilder _ _ w
theorem strCells_app (a b : ByteArray) : Lib.strCells (a ++ b) = Lib.strCells a ++ Lib.strCells b := by
 unfold Lib.strCells
 rw [← List.map_append]
 congr 1
theorem write_calls (B b : Nat) (a s : ByteArray) (w : World) (h : Bld B b a w) (hl : a.size + s.size ≤ 140737488355328) (hB : B ≤ w.heap.size) :
  Calls Try.prog 98 #[.pointer (some ⟨b, 0, none⟩), .string s] w fun e w' => e = .returned (.tuple #[.int .i64 s.size, .nilIface]) ∧ Bld B b (a ++ s) w' ∧ Below B w w' := by
 refine (Any.Builder_WriteString (ρ := ren) l166 ex B b (Lib.strCells a) s w h (by rw [Lib.strCells_length]; exact hl) hB).mono ?_
 rintro e w' ⟨he, hb, hw⟩
 refine ⟨he, ?_, hw⟩
 unfold Bld
 rw [strCells_app]
 exact Or.inr hb
theorem string_calls (B b : Nat) (a : ByteArray) (w : World) (h : Bld B b a w) (hB : B ≤ w.heap.size) :
  Calls Try.prog 102 #[.pointer (some ⟨b, 0, none⟩)] w fun e w' => e = .returned (.string a) ∧ Below B w w' := by
 have h' : Lib.IsBuilder 129 5 B b (Lib.byteCells a.data.toList) w := h
 refine (Any.Builder_String_any (ρ := ren) l169 ex B b a.data.toList w h' hB).mono ?_
 rintro e w' ⟨he, hw⟩
 exact ⟨he, hw⟩
end Go.Proofs.Ytmigglldahkngaa.XBuilder
end

section
-- Written by a program of this session (wip/tools/xprint.py), which drives the kit's print.
namespace Go.Proofs.Ytmigglldahkngaa.PA
open Go.RowKit Go.Proofs.YtmigglldahkngaaW.PrintWords Go.Proofs.YtmigglldahkngaaW.PrintLast Go.Proofs.YtmigglldahkngaaW.PrintMore Go.Proofs.Ytmigglldahkngaa.XQuiet
attribute [local go_sem] max2_int min2_int max_two min_two   -- for this text's walks alone
set_option linter.unusedVariables false
set_option linter.unusedSimpArgs false

/-! ### digest_May: function 50 -/
def digest_May.l0 : Nat → List (S72) → List (S72) → Int → Int → Option (Bool)
 | 0, _, _, _, _ => none
 | k + 1, x0, x5, x6, x7 => if x7 < x6 then (if 0 ≤ x7 then (if x7 < (x5.length : Int) then ((ident_Is.f ((rd_T72 x5 x7).f0)).bind fun t189 => (if t189 = true then ((value_May.f ((rd_T72 x5 x7).f1.f0) ((rd_T72 x5 x7).f1.f1) ((rd_T72 x5 x7).f1.f2) ((rd_T72 x5 x7).f1.f3)).bind fun t190 => (if t190 = true then (if x7 > 0 then (if 0 ≤ (wrap64 (x7 - 1)) then (if (wrap64 (x7 - 1)) < (x0.length : Int) then ((ident_Less.f ((rd_T72 x0 (wrap64 (x7 - 1))).f0) ((rd_T72 x5 x7).f0)).bind fun t192 => (if t192 = true then (digest_May.l0 k x0 x5 x6 (wrap64 (x7 + 1))) else (some false))) else (none)) else (none)) else (digest_May.l0 k x0 x5 x6 (wrap64 (x7 + 1)))) else (some false))) else (some false))) else (none)) else (none)) else (some (decide ((x0.length : Int) ≤ 32)))
def digest_May.f (k : Nat) (l0 : List (S72)) : Option (Bool) := digest_May.l0 k l0 l0 (l0.length : Int) 0
set_option maxHeartbeats 8000000 in
set_option maxRecDepth 100000 in
theorem digest_May.calls (k : Nat) (A0 : Option Addr) (c0 : Nat) (l0 : List (S72)) (r : Bool) (w : World) (hr0 : Kd.C k72 w A0 l0.length l0) (hc0 : l0.length ≤ c0) (h : digest_May.f k l0 = some r) :
  Calls Try.prog 50 #[.slice A0 l0.length c0] w fun e w' => e = .returned (.bool r) ∧ Below w.heap.size w w' := by
 unfold digest_May.f at h
 have hm63 : (l0.length : Int) ≤ 9223372036854775807 := by have := hr0.2.1; omega
 have HR := Aside0.mk hr0
 have HH := Aside0.mk h
 clear hr0 hc0 h
 go_enter Try.func50, Try.ntmps50
 have HB := Aside0.mk (Below.refl w.heap.size w)
 go_wp2
 go_loopg [7] k (fun g x wr => ∃ i : Nat, x = .int .i64 i ∧ i ≤ l0.length ∧ Aside0 (digest_May.l0 g l0 l0 (l0.length : Int) (i : Int) = some r) ∧ Aside0 (Below w.heap.size w wr))
 case atStart => exact ⟨0, rfl, Nat.zero_le _, HH, HB⟩
 case round =>
  obtain ⟨i, rfl, hi, hh, hb⟩ := hrel
  clear HH HB
  obtain ⟨g, rfl⟩ : ∃ g, gk = g + 1 := by
   cases gk with
   | zero => exact absurd hh.out (by simp [digest_May.l0])
   | succ g => exact ⟨g, rfl⟩
  have h := hh.out
  clear hh
  rw [digest_May.l0] at h
  by_cases hlt : (i : Int) < (l0.length : Int)
  ·rw [if_pos hlt, if_pos (by omega), if_pos hlt] at h
   have hC := Kd.C_below HR.out hb.out
   obtain ⟨ad, he, h0, h1, h2, h3, h4⟩ := at_T72 hC (i : Int) (by omega) (by omega)
   subst he
   rw [Int.toNat_natCast] at h0 h1 h2 h3 h4
   have h0i : (0 : Int) ≤ (i : Int) := by omega
   generalize rd_T72 l0 (i : Int) = x at h h0 h1 h2 h3 h4
   go_upto_region 4 with (fail)
   generalize hg : World.alloc _ _ = w2
   have hb2 : Below wr.heap.size wr w2 := hg ▸ below_alloc (Below.refl _ _) _
   have T4 : w2.heap[wr.heap.size]? = some (.cells #[.string x.f0, .int .i64 x.f1.f0, .int .i64 x.f1.f1, .int .i64 x.f1.f2, .string x.f1.f3] 72 (0, 0)) := hg ▸ heap_alloc_new _ _
   replace hb := Aside0.mk (below_step hb.out hb2)
   replace hC := Kd.C_below hC hb2
   clear h0 h1 h2 h3 h4 hg hb2
   generalize wr.heap.size = p4 at T4 ⊢
   have h0 := (blk_cell T4 0).trans rfl
   have h1 := (blk_cell T4 1).trans rfl
   have h2 := (blk_cell T4 2).trans rfl
   have h3 := (blk_cell T4 3).trans rfl
   have h4 := (blk_cell T4 4).trans rfl
   clear T4
   rcases hI : ident_Is.f x.f0 with _ | b1
   ·rw [hI] at h; exact absurd h (by simp)
   rw [hI] at h
   simp only [Option.bind_some] at h
   have d1 := fun u : Kin w2 => ident_Is.calls x.f0 b1 u.at' hI
   have y0 : ∀ u : Kin w2, u.at'.cell? _ = _ := Kin.cell h0
   have y1 : ∀ u : Kin w2, u.at'.cell? _ = _ := Kin.cell h1
   have y2 : ∀ u : Kin w2, u.at'.cell? _ = _ := Kin.cell h2
   have y3 : ∀ u : Kin w2, u.at'.cell? _ = _ := Kin.cell h3
   have y4 : ∀ u : Kin w2, u.at'.cell? _ = _ := Kin.cell h4
   clear hI
   cases b1 with
   | false =>
    rw [if_neg (by simp)] at h
    obtain rfl := Option.some.inj h
    go_wp2_with fail
    refine region_kin (by kernel_rfl) (by kernel_rfl) ?_
    repeat (go_big_quiet_step ((first | (go_at_call 68; first | exact Kin.call (d1 _) | exact Kin.same (d1 _) | exact Kin.call ((d1 _).mono fun _ _ q => ⟨q.1, q.2.below⟩)))))
    refine wpQuiet_nil ?_
    rintro w6 ⟨⟨_, b6⟩, rfl⟩
    have HX := Aside0.mk (below_step hb.out b6)
    clear hC h0 h1 h2 h3 h4 y0 y1 y2 y3 y4 d1 hb b6
    go_wp2
    go_ret
    exact ⟨rfl, HX.out⟩
   | true =>
    rw [if_pos rfl] at h
    rcases hJ : value_May.f x.f1.f0 x.f1.f1 x.f1.f2 x.f1.f3 with _ | b2
    ·rw [hJ] at h; exact absurd h (by simp)
    rw [hJ] at h
    simp only [Option.bind_some] at h
    have d2 := fun u : Kin w2 => value_May.calls x.f1.f0 x.f1.f1 x.f1.f2 x.f1.f3 b2 u.at' hJ
    clear hJ
    cases b2 with
    | false =>
     rw [if_neg (by simp)] at h
     obtain rfl := Option.some.inj h
     go_wp2_with fail
     refine region_kin (by kernel_rfl) (by kernel_rfl) ?_
     repeat (go_big_quiet_step ((first | (go_at_call 68; first | exact Kin.call (d1 _) | exact Kin.same (d1 _) | exact Kin.call ((d1 _).mono fun _ _ q => ⟨q.1, q.2.below⟩)) | (go_at_call 69; first | exact Kin.call (d2 _) | exact Kin.same (d2 _) | exact Kin.call ((d2 _).mono fun _ _ q => ⟨q.1, q.2.below⟩)))))
     refine wpQuiet_nil ?_
     rintro w6 ⟨⟨_, b6⟩, rfl⟩
     have HX := Aside0.mk (below_step hb.out b6)
     clear hC h0 h1 h2 h3 h4 y0 y1 y2 y3 y4 d1 hb b6
     go_wp2
     go_ret
     exact ⟨rfl, HX.out⟩
    | true =>
     rw [if_pos rfl] at h
     by_cases hp : (i : Int) > 0
     rotate_left
     ·rw [if_neg hp] at h
      have hp' : ¬ (0 : Int) < (i : Int) := hp
      have hpd : decide ((0 : Int) < (i : Int)) = false := decide_eq_false hp'
      have hpn : decide (0 < i) = false := decide_eq_false (by omega)
      clear hp'
      go_wp2_with fail
      refine region_kin (by kernel_rfl) (by kernel_rfl) ?_
      repeat (go_big_quiet_step ((first | (go_at_call 68; first | exact Kin.call (d1 _) | exact Kin.same (d1 _) | exact Kin.call ((d1 _).mono fun _ _ q => ⟨q.1, q.2.below⟩)) | (go_at_call 69; first | exact Kin.call (d2 _) | exact Kin.same (d2 _) | exact Kin.call ((d2 _).mono fun _ _ q => ⟨q.1, q.2.below⟩)))))
      refine wpQuiet_nil ?_
      rintro w6 ⟨⟨_, b6⟩, rfl⟩
      have HX := Aside0.mk (below_step hb.out b6)
      rw [show wrap64 ((i : Int) + 1) = ((i + 1 : Nat) : Int) by unfold wrap64; omega] at h
      have HN := Aside0.mk h
      have hw : IntKind.i64.wrap ((i : Int) + 1) = (i : Int) + 1 := by rw [IntKind.wrap_i64]; omega
      clear hC h0 h1 h2 h3 h4 y0 y1 y2 y3 y4 d1 hb b6 h
      go_wp2
      go_roundg g
      case measure => omega
      case rel => exact ⟨i + 1, by first | rfl | (congr 1), by omega, HN, HX⟩
     ·rw [if_pos hp] at h
      have hw1 : wrap64 ((i : Int) - 1) = ((i - 1 : Nat) : Int) := by unfold wrap64; omega
      have hw2 : IntKind.i64.wrap ((i : Int) - 1) = ((i - 1 : Nat) : Int) := by rw [IntKind.wrap_i64]; omega
      rw [hw1, if_pos (by omega), if_pos (by omega)] at h
      obtain ⟨ad2, he2, j0, _⟩ := at_T72 hC ((i - 1 : Nat) : Int) (by omega) (by omega)
      obtain rfl : ad = ad2 := by injection he2
      rw [Int.toNat_natCast] at j0
      have hp' : (0 : Int) < (i : Int) := hp
      have hpd : decide ((0 : Int) < (i : Int)) = true := decide_eq_true hp'
      have hpn : decide (0 < i) = true := decide_eq_true (by omega)
      have hq0 : (0 : Int) ≤ ((i - 1 : Nat) : Int) := by omega
      have hq1 : ((i - 1 : Nat) : Int) < (l0.length : Int) := by omega
      generalize rd_T72 l0 ((i - 1 : Nat) : Int) = y at h j0
      rcases hK : ident_Less.f y.f0 x.f0 with _ | b3
      ·rw [hK] at h; exact absurd h (by simp)
      rw [hK] at h
      simp only [Option.bind_some] at h
      have d3 := fun u : Kin w2 => ident_Less.calls y.f0 x.f0 b3 u.at' hK
      have y5 : ∀ u : Kin w2, u.at'.cell? _ = _ := Kin.cell j0
      clear hK hp hw1 he2
      cases b3 with
      | false =>
       rw [if_neg (by simp)] at h
       obtain rfl := Option.some.inj h
       go_wp2_with fail
       refine region_kin (by kernel_rfl) (by kernel_rfl) ?_
       repeat (go_big_quiet_step ((first | (go_at_call 68; first | exact Kin.call (d1 _) | exact Kin.same (d1 _) | exact Kin.call ((d1 _).mono fun _ _ q => ⟨q.1, q.2.below⟩)) | (go_at_call 69; first | exact Kin.call (d2 _) | exact Kin.same (d2 _) | exact Kin.call ((d2 _).mono fun _ _ q => ⟨q.1, q.2.below⟩)) | (go_at_call 70; first | exact Kin.call (d3 _) | exact Kin.same (d3 _) | exact Kin.call ((d3 _).mono fun _ _ q => ⟨q.1, q.2.below⟩)))))
       refine wpQuiet_nil ?_
       rintro w6 ⟨⟨_, b6⟩, rfl⟩
       have HX := Aside0.mk (below_step hb.out b6)
       clear hC h0 h1 h2 h3 h4 y0 y1 y2 y3 y4 d1 hb b6
       go_wp2
       go_ret
       exact ⟨rfl, HX.out⟩
      | true =>
       rw [if_pos rfl] at h
       go_wp2_with fail
       refine region_kin (by kernel_rfl) (by kernel_rfl) ?_
       repeat (go_big_quiet_step ((first | (go_at_call 68; first | exact Kin.call (d1 _) | exact Kin.same (d1 _) | exact Kin.call ((d1 _).mono fun _ _ q => ⟨q.1, q.2.below⟩)) | (go_at_call 69; first | exact Kin.call (d2 _) | exact Kin.same (d2 _) | exact Kin.call ((d2 _).mono fun _ _ q => ⟨q.1, q.2.below⟩)) | (go_at_call 70; first | exact Kin.call (d3 _) | exact Kin.same (d3 _) | exact Kin.call ((d3 _).mono fun _ _ q => ⟨q.1, q.2.below⟩)))))
       refine wpQuiet_nil ?_
       rintro w6 ⟨⟨_, b6⟩, rfl⟩
       have HX := Aside0.mk (below_step hb.out b6)
       rw [show wrap64 ((i : Int) + 1) = ((i + 1 : Nat) : Int) by unfold wrap64; omega] at h
       have HN := Aside0.mk h
       have hw : IntKind.i64.wrap ((i : Int) + 1) = (i : Int) + 1 := by rw [IntKind.wrap_i64]; omega
       clear hC h0 h1 h2 h3 h4 y0 y1 y2 y3 y4 d1 hb b6 h
       go_wp2
       go_roundg g
       case measure => omega
       case rel => exact ⟨i + 1, by first | rfl | (congr 1), by omega, HN, HX⟩
  ·rw [if_neg hlt] at h
   obtain rfl := Option.some.inj h
   have hlt' : (l0.length : Int) ≤ (i : Int) := by omega
   have hnd : decide ((i : Int) < (l0.length : Int)) = false := decide_eq_false hlt
   clear h hlt
   go_wp2
   go_ret
   exact ⟨rfl, hb.out⟩
end Go.Proofs.Ytmigglldahkngaa.PA
end
