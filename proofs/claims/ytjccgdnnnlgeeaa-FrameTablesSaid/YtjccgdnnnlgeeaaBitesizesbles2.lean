-- Several texts in one, without what the law does not use (wip/tools/bundle.py).
import Derived.Test.YtjccgdnnnlgeeaaBitesizesbles1

section
-- Written by a program of this session (wip/tools/xprint.py), which drives the kit's print.
namespace Go.Proofs.Ytjccgdnnnlgeeaa.PA
open Go.RowKit Go.Proofs.YtjccgdnnnlgeeaaW.PrintWords Go.Proofs.YtjccgdnnnlgeeaaW.PrintLast Go.Proofs.YtjccgdnnnlgeeaaW.PrintMore
attribute [local go_sem] min2_int min_two   -- for this text's walks alone
set_option linter.unusedVariables false
set_option linter.unusedSimpArgs false

attribute [local go_sem high] eqA23
/-! ### rollcallref06_May: function 14 -/
def rollcallref06_May.j0 : Nat → Bool → Int → Int → Bool → ByteArray → Int → Int → Int → ByteArray → Int → List (S52) → Option (Bool)
 | 0, _, _, _, _, _, _, _, _, _, _, _ => none
 | k + 1, x10, x184000, x184001, x184002, x184003, x184004, x184005, x184006, x184007, x184008, x184009 => if x10 = true then (some false) else (if x184000 = 1 then ((rollcallref03_Is.f k x184003).bind fun t184 => (if t184 = true then (if x184002 = true then ((rollcallref04_May.f k x184004 x184005 x184006 x184007).bind fun t185 => (if t185 = true then (if x184008 = 0 then (some ((x184009.length : Int) == 0)) else (some false)) else (some false))) else (if (!(x184004 == 0) || (!(x184005 == 0) || (!(x184006 == 0) || (!(x184007.toList == ([] : List UInt8)))))) = true then (some false) else (if x184008 = 0 then (some ((x184009.length : Int) == 0)) else (some false)))) else (some false))) else (if x184000 = 2 then (if x184002 = true then (some false) else (if x184003.toList = ([] : List UInt8) then (if (x184004 == 0 && (x184005 == 0 && (x184006 == 0 && (x184007.toList == ([] : List UInt8))))) = true then (some ((x184009.length : Int) == 0)) else (some false)) else (some false))) else (if x184000 = 3 then (if x184002 = true then (some false) else (if x184003.toList = ([] : List UInt8) then (if (x184004 == 0 && (x184005 == 0 && (x184006 == 0 && (x184007.toList == ([] : List UInt8))))) = true then (if x184008 = 0 then ((rollcallref05_May.f k x184009).bind fun t186 => (some t186)) else (some false)) else (some false)) else (some false))) else (if x184000 = 4 then (if x184002 = true then (some false) else (if x184003.toList = ([] : List UInt8) then (if (x184004 == 0 && (x184005 == 0 && (x184006 == 0 && (x184007.toList == ([] : List UInt8))))) = true then (if x184008 = 0 then (some ((x184009.length : Int) == 0)) else (some false)) else (some false)) else (some false))) else (some false)))))
def rollcallref06_May.f (k : Nat) (a0_0 : Int) (a0_1 : Int) (a0_2 : Bool) (a0_3 : ByteArray) (a0_4 : Int) (a0_5 : Int) (a0_6 : Int) (a0_7 : ByteArray) (a0_8 : Int) (l0_9 : List (S52)) : Option (Bool) := if a0_1 < 0 then (rollcallref06_May.j0 k true a0_0 a0_1 a0_2 a0_3 a0_4 a0_5 a0_6 a0_7 a0_8 l0_9) else (rollcallref06_May.j0 k (decide (a0_1 > 1099511627776)) a0_0 a0_1 a0_2 a0_3 a0_4 a0_5 a0_6 a0_7 a0_8 l0_9)
set_option maxHeartbeats 8000000 in
set_option maxRecDepth 100000 in
theorem rollcallref06_May.calls (k : Nat) (a0_0 : Int) (a0_1 : Int) (a0_2 : Bool) (a0_3 : ByteArray) (a0_4 : Int) (a0_5 : Int) (a0_6 : Int) (a0_7 : ByteArray) (a0_8 : Int) (A0_9 : Option Addr) (c0_9 : Nat) (l0_9 : List (S52)) (r : Bool) (w : World) (hr0_9 : Kd.C k52 w A0_9 l0_9.length l0_9) (hc0_9 : l0_9.length ≤ c0_9) (h : rollcallref06_May.f k a0_0 a0_1 a0_2 a0_3 a0_4 a0_5 a0_6 a0_7 a0_8 l0_9 = some r) :
  Calls Try.prog 14 #[.agg #[.int .i64 a0_0, .int .i64 a0_1, .bool a0_2, .string a0_3, .int .i64 a0_4, .int .i64 a0_5, .int .i64 a0_6, .string a0_7, .int .u64 a0_8, .slice A0_9 l0_9.length c0_9]] w fun e w' => e = .returned (.bool r) ∧ Below w.heap.size w w' := by
 have hu27 := Try.underlying27
 have hu23 := Try.underlying23
 have HR0_9 := Aside0.mk hr0_9
 have HC0_9 := Aside0.mk hc0_9
 clear hr0_9 hc0_9
 have HB := Aside0.mk (Below.refl w.heap.size w)
 have H : (if a0_1 < 0 then (rollcallref06_May.j0 k true a0_0 a0_1 a0_2 a0_3 a0_4 a0_5 a0_6 a0_7 a0_8 l0_9) else (rollcallref06_May.j0 k (decide (a0_1 > 1099511627776)) a0_0 a0_1 a0_2 a0_3 a0_4 a0_5 a0_6 a0_7 a0_8 l0_9)) = some r := h
 clear h
 have HC2 := Aside0.mk H
 clear H
 go_enter Try.func14, Try.ntmps14
 go_upto_region 1 with (first | ((with_reducible refine gate_dst (N := 1) rfl ?_); (try (refine gate_guard (by rfl) ?_; dsimp only)); refine box_event ?hg (N := 1) ?hd (cs := #[.int .i64 a0_0, .int .i64 a0_1, .bool a0_2, .string a0_3, .int .i64 a0_4, .int .i64 a0_5, .int .i64 a0_6, .string a0_7, .int .u64 a0_8, .slice A0_9 l0_9.length c0_9]) (t := 27) ?hr ?_; (case hd => rfl); (case hg => rfl); (case hr => first | (go_simp; done) | (go_simp; rfl)); intro gb183 hg w3 hbox hb; have BK183 := Aside0.mk (hbox); have GW183 := Aside0.mk ((by rw [hg]; exact (below_size (hS HB.out)) : w.heap.size ≤ gb183)); have GE183 := Aside0.mk ((by rw [hg]; exact (below_size (hS HB.out)) : w.heap.size ≤ gb183)); replace HB := Aside0.mk (below_step (hS HB.out) hb); clear hb hbox hg))
 (try simp only [Act.put, List.setIfInBounds_toArray, List.set_cons_zero, List.set_cons_succ])
 go_cut [10] (fun v10 wc => ∃ (kq : Nat) (x10_1 : Bool), v10 = .bool x10_1 ∧ Aside0 (rollcallref06_May.j0 kq x10_1 a0_0 a0_1 a0_2 a0_3 a0_4 a0_5 a0_6 a0_7 a0_8 l0_9 = some r) ∧ Aside0 (kq ≤ k) ∧ Aside0 (wc.heap[gb183]? = some (.cells #[.int .i64 a0_0, .int .i64 a0_1, .bool a0_2, .string a0_3, .int .i64 a0_4, .int .i64 a0_5, .int .i64 a0_6, .string a0_7, .int .u64 a0_8, (.slice A0_9 l0_9.length c0_9)] 27 (0, 0))) ∧ Aside0 (Below w.heap.size w wc))
 case first =>
  have H := HC2.out
  clear HC2
  by_cases c4 : a0_1 < 0
  ·rw [if_pos c4] at H
   have c4b0 : decide (a0_1 < 0) = true := decide_eq_true c4
   clear c4
   (first | rw [c4b0] | (simp only [i64_w, i32_w]; rw [c4b0]) | skip)
   have H' := Aside0.mk H
   clear H
   have hcz5_0 : w3.cell? ⟨gb183, 0, none⟩ = some (.int .i64 a0_0) := (blk_cell BK183.out 0).trans rfl
   have hcz5_1 : w3.cell? ⟨gb183, 1, none⟩ = some (.int .i64 a0_1) := (blk_cell BK183.out 1).trans rfl
   have hcz5_2 : w3.cell? ⟨gb183, 2, none⟩ = some (.bool a0_2) := (blk_cell BK183.out 2).trans rfl
   have hcz5_3 : w3.cell? ⟨gb183, 3, none⟩ = some (.string a0_3) := (blk_cell BK183.out 3).trans rfl
   have hcz5_4 : w3.cell? ⟨gb183, 4, none⟩ = some (.int .i64 a0_4) := (blk_cell BK183.out 4).trans rfl
   have hcz5_5 : w3.cell? ⟨gb183, 5, none⟩ = some (.int .i64 a0_5) := (blk_cell BK183.out 5).trans rfl
   have hcz5_6 : w3.cell? ⟨gb183, 6, none⟩ = some (.int .i64 a0_6) := (blk_cell BK183.out 6).trans rfl
   have hcz5_7 : w3.cell? ⟨gb183, 7, none⟩ = some (.string a0_7) := (blk_cell BK183.out 7).trans rfl
   have hcz5_8 : w3.cell? ⟨gb183, 8, none⟩ = some (.int .u64 a0_8) := (blk_cell BK183.out 8).trans rfl
   have hcz5_9 : w3.cell? ⟨gb183, 9, none⟩ = some (.slice A0_9 l0_9.length c0_9) := (blk_cell BK183.out 9).trans rfl
   have hfz5_0 := blk_frozen BK183.out 0
   have hfz5_1 := blk_frozen BK183.out 1
   have hfz5_2 := blk_frozen BK183.out 2
   have hfz5_3 := blk_frozen BK183.out 3
   have hfz5_4 := blk_frozen BK183.out 4
   have hfz5_5 := blk_frozen BK183.out 5
   have hfz5_6 := blk_frozen BK183.out 6
   have hfz5_7 := blk_frozen BK183.out 7
   have hfz5_8 := blk_frozen BK183.out 8
   have hfz5_9 := blk_frozen BK183.out 9
   go_wp2
   go_meet
   case rel => exact ⟨_, (true), (by first | rfl | (simp; done) | (simp [*]; done)), H', ⟨by first | omega | exact Nat.le_refl _⟩, ⟨bS BK183.out⟩, ⟨by repeat (first | (with_reducible first | exact HB.out | apply below_alloc | apply pw_below_drewN | apply below_drew1 | refine below_set ?_ GE183.out) | exact HB.out)⟩⟩
  ·rw [if_neg c4] at H
   have c4b0 : decide (a0_1 < 0) = false := decide_eq_false c4
   clear c4
   (first | rw [c4b0] | (simp only [i64_w, i32_w]; rw [c4b0]) | skip)
   have H' := Aside0.mk H
   clear H
   have hcz6_0 : w3.cell? ⟨gb183, 0, none⟩ = some (.int .i64 a0_0) := (blk_cell BK183.out 0).trans rfl
   have hcz6_1 : w3.cell? ⟨gb183, 1, none⟩ = some (.int .i64 a0_1) := (blk_cell BK183.out 1).trans rfl
   have hcz6_2 : w3.cell? ⟨gb183, 2, none⟩ = some (.bool a0_2) := (blk_cell BK183.out 2).trans rfl
   have hcz6_3 : w3.cell? ⟨gb183, 3, none⟩ = some (.string a0_3) := (blk_cell BK183.out 3).trans rfl
   have hcz6_4 : w3.cell? ⟨gb183, 4, none⟩ = some (.int .i64 a0_4) := (blk_cell BK183.out 4).trans rfl
   have hcz6_5 : w3.cell? ⟨gb183, 5, none⟩ = some (.int .i64 a0_5) := (blk_cell BK183.out 5).trans rfl
   have hcz6_6 : w3.cell? ⟨gb183, 6, none⟩ = some (.int .i64 a0_6) := (blk_cell BK183.out 6).trans rfl
   have hcz6_7 : w3.cell? ⟨gb183, 7, none⟩ = some (.string a0_7) := (blk_cell BK183.out 7).trans rfl
   have hcz6_8 : w3.cell? ⟨gb183, 8, none⟩ = some (.int .u64 a0_8) := (blk_cell BK183.out 8).trans rfl
   have hcz6_9 : w3.cell? ⟨gb183, 9, none⟩ = some (.slice A0_9 l0_9.length c0_9) := (blk_cell BK183.out 9).trans rfl
   have hfz6_0 := blk_frozen BK183.out 0
   have hfz6_1 := blk_frozen BK183.out 1
   have hfz6_2 := blk_frozen BK183.out 2
   have hfz6_3 := blk_frozen BK183.out 3
   have hfz6_4 := blk_frozen BK183.out 4
   have hfz6_5 := blk_frozen BK183.out 5
   have hfz6_6 := blk_frozen BK183.out 6
   have hfz6_7 := blk_frozen BK183.out 7
   have hfz6_8 := blk_frozen BK183.out 8
   have hfz6_9 := blk_frozen BK183.out 9
   go_wp2
   go_meet
   case rel => exact ⟨_, (decide (a0_1 > 1099511627776)), (by first | rfl | (simp; done) | (simp [*]; done)), H', ⟨by first | omega | exact Nat.le_refl _⟩, ⟨bS BK183.out⟩, ⟨by repeat (first | (with_reducible first | exact HB.out | apply below_alloc | apply pw_below_drewN | apply below_drew1 | refine below_set ?_ GE183.out) | exact HB.out)⟩⟩
 case rest =>
  clear HC2
  try clear c1
  try clear p2
  try clear c4
  try clear c4b0
  try clear hcz5_0
  try clear hcz5_1
  try clear hcz5_2
  try clear hcz5_3
  try clear hcz5_4
  try clear hcz5_5
  try clear hcz5_6
  try clear hcz5_7
  try clear hcz5_8
  try clear hcz5_9
  try clear hcz6_0
  try clear hcz6_1
  try clear hcz6_2
  try clear hcz6_3
  try clear hcz6_4
  try clear hcz6_5
  try clear hcz6_6
  try clear hcz6_7
  try clear hcz6_8
  try clear hcz6_9
  try clear hfz5_0
  try clear hfz5_1
  try clear hfz5_2
  try clear hfz5_3
  try clear hfz5_4
  try clear hfz5_5
  try clear hfz5_6
  try clear hfz5_7
  try clear hfz5_8
  try clear hfz5_9
  try clear hfz6_0
  try clear hfz6_1
  try clear hfz6_2
  try clear hfz6_3
  try clear hfz6_4
  try clear hfz6_5
  try clear hfz6_6
  try clear hfz6_7
  try clear hfz6_8
  try clear hfz6_9
  obtain ⟨kq, x10_1, rfl, HA, HJ1, BK183, HB⟩ := hcut
  cases kq with
  | zero => exact absurd HA.out (by simp [rollcallref06_May.j0])
  | succ kj1 =>
   have H := HA.out
   clear HA
   simp only [rollcallref06_May.j0] at H
   by_cases c7 : x10_1 = true
   ·subst c7
    have H1 : (some false) = some r := by rw [if_pos rfl] at H; exact H
    clear H
    have H := H1
    clear H1
    obtain rfl := Option.some.inj H
    go_wp2
    go_ret
    exact ⟨by first | rfl | (simp [errW_none, errW_some] <;> rfl) | (simp [*, errW_none, errW_some] <;> rfl), by repeat (first | (with_reducible first | exact HB.out | apply below_alloc | apply pw_below_drewN | apply below_drew1 | refine below_set ?_ GE183.out) | exact HB.out)⟩
   ·replace c7 := Bool.eq_false_iff.mpr c7
    subst c7
    have H1 : (if a0_0 = 1 then ((rollcallref03_Is.f kj1 a0_3).bind fun t184 => (if t184 = true then (if a0_2 = true then ((rollcallref04_May.f kj1 a0_4 a0_5 a0_6 a0_7).bind fun t185 => (if t185 = true then (if a0_8 = 0 then (some ((l0_9.length : Int) == 0)) else (some false)) else (some false))) else (if (!(a0_4 == 0) || (!(a0_5 == 0) || (!(a0_6 == 0) || (!(a0_7.toList == ([] : List UInt8)))))) = true then (some false) else (if a0_8 = 0 then (some ((l0_9.length : Int) == 0)) else (some false)))) else (some false))) else (if a0_0 = 2 then (if a0_2 = true then (some false) else (if a0_3.toList = ([] : List UInt8) then (if (a0_4 == 0 && (a0_5 == 0 && (a0_6 == 0 && (a0_7.toList == ([] : List UInt8))))) = true then (some ((l0_9.length : Int) == 0)) else (some false)) else (some false))) else (if a0_0 = 3 then (if a0_2 = true then (some false) else (if a0_3.toList = ([] : List UInt8) then (if (a0_4 == 0 && (a0_5 == 0 && (a0_6 == 0 && (a0_7.toList == ([] : List UInt8))))) = true then (if a0_8 = 0 then ((rollcallref05_May.f kj1 l0_9).bind fun t186 => (some t186)) else (some false)) else (some false)) else (some false))) else (if a0_0 = 4 then (if a0_2 = true then (some false) else (if a0_3.toList = ([] : List UInt8) then (if (a0_4 == 0 && (a0_5 == 0 && (a0_6 == 0 && (a0_7.toList == ([] : List UInt8))))) = true then (if a0_8 = 0 then (some ((l0_9.length : Int) == 0)) else (some false)) else (some false)) else (some false))) else (some false))))) = some r := by rw [if_neg (show ¬ (false = true) by decide)] at H; exact H
    clear H
    have H := H1
    clear H1
    by_cases c8 : a0_0 = 1
    ·rw [if_pos c8] at H
     have c8b0 : (a0_0 == 1) = true := beq_iff_eq.mpr c8
     have c8b1 : (a0_0 != 1) = false := bne_eq_false_iff_eq.mpr c8
     clear c8
     replace H := Option.bind_eq_some_iff.mp H
     obtain ⟨t184, A90, H⟩ := H
     replace H : (if t184 = true then (if a0_2 = true then ((rollcallref04_May.f kj1 a0_4 a0_5 a0_6 a0_7).bind fun t185 => (if t185 = true then (if a0_8 = 0 then (some ((l0_9.length : Int) == 0)) else (some false)) else (some false))) else (if (!(a0_4 == 0) || (!(a0_5 == 0) || (!(a0_6 == 0) || (!(a0_7.toList == ([] : List UInt8)))))) = true then (some false) else (if a0_8 = 0 then (some ((l0_9.length : Int) == 0)) else (some false)))) else (some false)) = some r := H
     have A9 := Aside0.mk A90
     clear A90
     by_cases c10 : t184 = true
     ·subst c10
      have H1 : (if a0_2 = true then ((rollcallref04_May.f kj1 a0_4 a0_5 a0_6 a0_7).bind fun t185 => (if t185 = true then (if a0_8 = 0 then (some ((l0_9.length : Int) == 0)) else (some false)) else (some false))) else (if (!(a0_4 == 0) || (!(a0_5 == 0) || (!(a0_6 == 0) || (!(a0_7.toList == ([] : List UInt8)))))) = true then (some false) else (if a0_8 = 0 then (some ((l0_9.length : Int) == 0)) else (some false)))) = some r := by rw [if_pos rfl] at H; exact H
      clear H
      have H := H1
      clear H1
      by_cases c11 : a0_2 = true
      ·subst c11
       have H1 : ((rollcallref04_May.f kj1 a0_4 a0_5 a0_6 a0_7).bind fun t185 => (if t185 = true then (if a0_8 = 0 then (some ((l0_9.length : Int) == 0)) else (some false)) else (some false))) = some r := by rw [if_pos rfl] at H; exact H
       clear H
       have H := H1
       clear H1
       replace H := Option.bind_eq_some_iff.mp H
       obtain ⟨t185, A120, H⟩ := H
       replace H : (if t185 = true then (if a0_8 = 0 then (some ((l0_9.length : Int) == 0)) else (some false)) else (some false)) = some r := H
       have A12 := Aside0.mk A120
       clear A120
       by_cases c13 : t185 = true
       ·subst c13
        have H1 : (if a0_8 = 0 then (some ((l0_9.length : Int) == 0)) else (some false)) = some r := by rw [if_pos rfl] at H; exact H
        clear H
        have H := H1
        clear H1
        by_cases c14 : a0_8 = 0
        ·rw [if_pos c14] at H
         have c14b0 : (a0_8 == 0) = true := beq_iff_eq.mpr c14
         have c14b1 : (a0_8 != 0) = false := bne_eq_false_iff_eq.mpr c14
         clear c14
         obtain rfl := Option.some.inj H
         have hcz15_0 : wc.cell? ⟨gb183, 0, none⟩ = some (.int .i64 a0_0) := (blk_cell BK183.out 0).trans rfl
         have hcz15_1 : wc.cell? ⟨gb183, 1, none⟩ = some (.int .i64 a0_1) := (blk_cell BK183.out 1).trans rfl
         have hcz15_2 : wc.cell? ⟨gb183, 2, none⟩ = some (.bool true) := (blk_cell BK183.out 2).trans rfl
         have hcz15_3 : wc.cell? ⟨gb183, 3, none⟩ = some (.string a0_3) := (blk_cell BK183.out 3).trans rfl
         have hcz15_4 : wc.cell? ⟨gb183, 4, none⟩ = some (.int .i64 a0_4) := (blk_cell BK183.out 4).trans rfl
         have hcz15_5 : wc.cell? ⟨gb183, 5, none⟩ = some (.int .i64 a0_5) := (blk_cell BK183.out 5).trans rfl
         have hcz15_6 : wc.cell? ⟨gb183, 6, none⟩ = some (.int .i64 a0_6) := (blk_cell BK183.out 6).trans rfl
         have hcz15_7 : wc.cell? ⟨gb183, 7, none⟩ = some (.string a0_7) := (blk_cell BK183.out 7).trans rfl
         have hcz15_8 : wc.cell? ⟨gb183, 8, none⟩ = some (.int .u64 a0_8) := (blk_cell BK183.out 8).trans rfl
         have hcz15_9 : wc.cell? ⟨gb183, 9, none⟩ = some (.slice A0_9 l0_9.length c0_9) := (blk_cell BK183.out 9).trans rfl
         have hfz15_0 := blk_frozen BK183.out 0
         have hfz15_1 := blk_frozen BK183.out 1
         have hfz15_2 := blk_frozen BK183.out 2
         have hfz15_3 := blk_frozen BK183.out 3
         have hfz15_4 := blk_frozen BK183.out 4
         have hfz15_5 := blk_frozen BK183.out 5
         have hfz15_6 := blk_frozen BK183.out 6
         have hfz15_7 := blk_frozen BK183.out 7
         have hfz15_8 := blk_frozen BK183.out 8
         have hfz15_9 := blk_frozen BK183.out 9
         go_wp2_with (first | ((with_reducible refine gate_callee (f := 27) rfl ?_); refine goesL_ (some 17) rfl rfl Try.func27 (by kernel_rfl) rfl #[.string a0_3] rfl (by (try simp only [List.map_toArray, List.map_cons, List.map_nil]); first | done | rfl | (simp only [List.length_drop, List.length_take]; rfl)) ?_; (with_reducible refine (rollcallref03_Is.calls kj1 a0_3 true _ A9.out).mono ?_); rintro e w' ⟨rfl, ⟨nd, rfl⟩⟩; refine ⟨_, rfl, ?_⟩) | (go_at_call 28; (with_reducible refine (rollcallref04_May.calls kj1 a0_4 a0_5 a0_6 a0_7 true _ A12.out).mono ?_); rintro e w16 ⟨rfl, hb⟩; replace BK183 := Aside0.mk (blk_below (bS BK183.out) hb); replace HB := Aside0.mk (below_step (hS HB.out) hb); (try clear hb); (try clear hb2); (try clear hk); (try clear hi); have hcz17_0 : w16.cell? ⟨gb183, 0, none⟩ = some (.int .i64 a0_0) := (blk_cell BK183.out 0).trans rfl; have hcz17_1 : w16.cell? ⟨gb183, 1, none⟩ = some (.int .i64 a0_1) := (blk_cell BK183.out 1).trans rfl; have hcz17_2 : w16.cell? ⟨gb183, 2, none⟩ = some (.bool true) := (blk_cell BK183.out 2).trans rfl; have hcz17_3 : w16.cell? ⟨gb183, 3, none⟩ = some (.string a0_3) := (blk_cell BK183.out 3).trans rfl; have hcz17_4 : w16.cell? ⟨gb183, 4, none⟩ = some (.int .i64 a0_4) := (blk_cell BK183.out 4).trans rfl; have hcz17_5 : w16.cell? ⟨gb183, 5, none⟩ = some (.int .i64 a0_5) := (blk_cell BK183.out 5).trans rfl; have hcz17_6 : w16.cell? ⟨gb183, 6, none⟩ = some (.int .i64 a0_6) := (blk_cell BK183.out 6).trans rfl; have hcz17_7 : w16.cell? ⟨gb183, 7, none⟩ = some (.string a0_7) := (blk_cell BK183.out 7).trans rfl; have hcz17_8 : w16.cell? ⟨gb183, 8, none⟩ = some (.int .u64 a0_8) := (blk_cell BK183.out 8).trans rfl; have hcz17_9 : w16.cell? ⟨gb183, 9, none⟩ = some (.slice A0_9 l0_9.length c0_9) := (blk_cell BK183.out 9).trans rfl; have hfz17_0 := blk_frozen BK183.out 0; have hfz17_1 := blk_frozen BK183.out 1; have hfz17_2 := blk_frozen BK183.out 2; have hfz17_3 := blk_frozen BK183.out 3; have hfz17_4 := blk_frozen BK183.out 4; have hfz17_5 := blk_frozen BK183.out 5; have hfz17_6 := blk_frozen BK183.out 6; have hfz17_7 := blk_frozen BK183.out 7; have hfz17_8 := blk_frozen BK183.out 8; have hfz17_9 := blk_frozen BK183.out 9))
         go_ret
         exact ⟨by first | rfl | (simp [errW_none, errW_some] <;> rfl) | (simp [*, errW_none, errW_some] <;> rfl), by repeat (first | (with_reducible first | exact HB.out | apply below_alloc | apply pw_below_drewN | apply below_drew1 | refine below_set ?_ GE183.out) | exact HB.out)⟩
        ·rw [if_neg c14] at H
         have c14b0 : (a0_8 == 0) = false := beq_eq_false_iff_ne.mpr c14
         have c14b1 : (a0_8 != 0) = true := bne_iff_ne.mpr c14
         obtain rfl := Option.some.inj H
         have hcz18_0 : wc.cell? ⟨gb183, 0, none⟩ = some (.int .i64 a0_0) := (blk_cell BK183.out 0).trans rfl
         have hcz18_1 : wc.cell? ⟨gb183, 1, none⟩ = some (.int .i64 a0_1) := (blk_cell BK183.out 1).trans rfl
         have hcz18_2 : wc.cell? ⟨gb183, 2, none⟩ = some (.bool true) := (blk_cell BK183.out 2).trans rfl
         have hcz18_3 : wc.cell? ⟨gb183, 3, none⟩ = some (.string a0_3) := (blk_cell BK183.out 3).trans rfl
         have hcz18_4 : wc.cell? ⟨gb183, 4, none⟩ = some (.int .i64 a0_4) := (blk_cell BK183.out 4).trans rfl
         have hcz18_5 : wc.cell? ⟨gb183, 5, none⟩ = some (.int .i64 a0_5) := (blk_cell BK183.out 5).trans rfl
         have hcz18_6 : wc.cell? ⟨gb183, 6, none⟩ = some (.int .i64 a0_6) := (blk_cell BK183.out 6).trans rfl
         have hcz18_7 : wc.cell? ⟨gb183, 7, none⟩ = some (.string a0_7) := (blk_cell BK183.out 7).trans rfl
         have hcz18_8 : wc.cell? ⟨gb183, 8, none⟩ = some (.int .u64 a0_8) := (blk_cell BK183.out 8).trans rfl
         have hcz18_9 : wc.cell? ⟨gb183, 9, none⟩ = some (.slice A0_9 l0_9.length c0_9) := (blk_cell BK183.out 9).trans rfl
         have hfz18_0 := blk_frozen BK183.out 0
         have hfz18_1 := blk_frozen BK183.out 1
         have hfz18_2 := blk_frozen BK183.out 2
         have hfz18_3 := blk_frozen BK183.out 3
         have hfz18_4 := blk_frozen BK183.out 4
         have hfz18_5 := blk_frozen BK183.out 5
         have hfz18_6 := blk_frozen BK183.out 6
         have hfz18_7 := blk_frozen BK183.out 7
         have hfz18_8 := blk_frozen BK183.out 8
         have hfz18_9 := blk_frozen BK183.out 9
         go_wp2_with (first | ((with_reducible refine gate_callee (f := 27) rfl ?_); refine goesL_ (some 17) rfl rfl Try.func27 (by kernel_rfl) rfl #[.string a0_3] rfl (by (try simp only [List.map_toArray, List.map_cons, List.map_nil]); first | done | rfl | (simp only [List.length_drop, List.length_take]; rfl)) ?_; (with_reducible refine (rollcallref03_Is.calls kj1 a0_3 true _ A9.out).mono ?_); rintro e w' ⟨rfl, ⟨nd, rfl⟩⟩; refine ⟨_, rfl, ?_⟩) | (go_at_call 28; (with_reducible refine (rollcallref04_May.calls kj1 a0_4 a0_5 a0_6 a0_7 true _ A12.out).mono ?_); rintro e w19 ⟨rfl, hb⟩; replace BK183 := Aside0.mk (blk_below (bS BK183.out) hb); replace HB := Aside0.mk (below_step (hS HB.out) hb); (try clear hb); (try clear hb2); (try clear hk); (try clear hi); have hcz20_0 : w19.cell? ⟨gb183, 0, none⟩ = some (.int .i64 a0_0) := (blk_cell BK183.out 0).trans rfl; have hcz20_1 : w19.cell? ⟨gb183, 1, none⟩ = some (.int .i64 a0_1) := (blk_cell BK183.out 1).trans rfl; have hcz20_2 : w19.cell? ⟨gb183, 2, none⟩ = some (.bool true) := (blk_cell BK183.out 2).trans rfl; have hcz20_3 : w19.cell? ⟨gb183, 3, none⟩ = some (.string a0_3) := (blk_cell BK183.out 3).trans rfl; have hcz20_4 : w19.cell? ⟨gb183, 4, none⟩ = some (.int .i64 a0_4) := (blk_cell BK183.out 4).trans rfl; have hcz20_5 : w19.cell? ⟨gb183, 5, none⟩ = some (.int .i64 a0_5) := (blk_cell BK183.out 5).trans rfl; have hcz20_6 : w19.cell? ⟨gb183, 6, none⟩ = some (.int .i64 a0_6) := (blk_cell BK183.out 6).trans rfl; have hcz20_7 : w19.cell? ⟨gb183, 7, none⟩ = some (.string a0_7) := (blk_cell BK183.out 7).trans rfl; have hcz20_8 : w19.cell? ⟨gb183, 8, none⟩ = some (.int .u64 a0_8) := (blk_cell BK183.out 8).trans rfl; have hcz20_9 : w19.cell? ⟨gb183, 9, none⟩ = some (.slice A0_9 l0_9.length c0_9) := (blk_cell BK183.out 9).trans rfl; have hfz20_0 := blk_frozen BK183.out 0; have hfz20_1 := blk_frozen BK183.out 1; have hfz20_2 := blk_frozen BK183.out 2; have hfz20_3 := blk_frozen BK183.out 3; have hfz20_4 := blk_frozen BK183.out 4; have hfz20_5 := blk_frozen BK183.out 5; have hfz20_6 := blk_frozen BK183.out 6; have hfz20_7 := blk_frozen BK183.out 7; have hfz20_8 := blk_frozen BK183.out 8; have hfz20_9 := blk_frozen BK183.out 9))
         go_ret
         exact ⟨by first | rfl | (simp [errW_none, errW_some] <;> rfl) | (simp [*, errW_none, errW_some] <;> rfl), by repeat (first | (with_reducible first | exact HB.out | apply below_alloc | apply pw_below_drewN | apply below_drew1 | refine below_set ?_ GE183.out) | exact HB.out)⟩
       ·replace c13 := Bool.eq_false_iff.mpr c13
        subst c13
        have H1 : (some false) = some r := by rw [if_neg (show ¬ (false = true) by decide)] at H; exact H
        clear H
        have H := H1
        clear H1
        obtain rfl := Option.some.inj H
        have hcz21_0 : wc.cell? ⟨gb183, 0, none⟩ = some (.int .i64 a0_0) := (blk_cell BK183.out 0).trans rfl
        have hcz21_1 : wc.cell? ⟨gb183, 1, none⟩ = some (.int .i64 a0_1) := (blk_cell BK183.out 1).trans rfl
        have hcz21_2 : wc.cell? ⟨gb183, 2, none⟩ = some (.bool true) := (blk_cell BK183.out 2).trans rfl
        have hcz21_3 : wc.cell? ⟨gb183, 3, none⟩ = some (.string a0_3) := (blk_cell BK183.out 3).trans rfl
        have hcz21_4 : wc.cell? ⟨gb183, 4, none⟩ = some (.int .i64 a0_4) := (blk_cell BK183.out 4).trans rfl
        have hcz21_5 : wc.cell? ⟨gb183, 5, none⟩ = some (.int .i64 a0_5) := (blk_cell BK183.out 5).trans rfl
        have hcz21_6 : wc.cell? ⟨gb183, 6, none⟩ = some (.int .i64 a0_6) := (blk_cell BK183.out 6).trans rfl
        have hcz21_7 : wc.cell? ⟨gb183, 7, none⟩ = some (.string a0_7) := (blk_cell BK183.out 7).trans rfl
        have hcz21_8 : wc.cell? ⟨gb183, 8, none⟩ = some (.int .u64 a0_8) := (blk_cell BK183.out 8).trans rfl
        have hcz21_9 : wc.cell? ⟨gb183, 9, none⟩ = some (.slice A0_9 l0_9.length c0_9) := (blk_cell BK183.out 9).trans rfl
        have hfz21_0 := blk_frozen BK183.out 0
        have hfz21_1 := blk_frozen BK183.out 1
        have hfz21_2 := blk_frozen BK183.out 2
        have hfz21_3 := blk_frozen BK183.out 3
        have hfz21_4 := blk_frozen BK183.out 4
        have hfz21_5 := blk_frozen BK183.out 5
        have hfz21_6 := blk_frozen BK183.out 6
        have hfz21_7 := blk_frozen BK183.out 7
        have hfz21_8 := blk_frozen BK183.out 8
        have hfz21_9 := blk_frozen BK183.out 9
        go_wp2_with (first | ((with_reducible refine gate_callee (f := 27) rfl ?_); refine goesL_ (some 17) rfl rfl Try.func27 (by kernel_rfl) rfl #[.string a0_3] rfl (by (try simp only [List.map_toArray, List.map_cons, List.map_nil]); first | done | rfl | (simp only [List.length_drop, List.length_take]; rfl)) ?_; (with_reducible refine (rollcallref03_Is.calls kj1 a0_3 true _ A9.out).mono ?_); rintro e w' ⟨rfl, ⟨nd, rfl⟩⟩; refine ⟨_, rfl, ?_⟩) | (go_at_call 28; (with_reducible refine (rollcallref04_May.calls kj1 a0_4 a0_5 a0_6 a0_7 false _ A12.out).mono ?_); rintro e w22 ⟨rfl, hb⟩; replace BK183 := Aside0.mk (blk_below (bS BK183.out) hb); replace HB := Aside0.mk (below_step (hS HB.out) hb); (try clear hb); (try clear hb2); (try clear hk); (try clear hi)))
        go_ret
        exact ⟨by first | rfl | (simp [errW_none, errW_some] <;> rfl) | (simp [*, errW_none, errW_some] <;> rfl), by repeat (first | (with_reducible first | exact HB.out | apply below_alloc | apply pw_below_drewN | apply below_drew1 | refine below_set ?_ GE183.out) | exact HB.out)⟩
      ·replace c11 := Bool.eq_false_iff.mpr c11
       subst c11
       have H1 : (if (!(a0_4 == 0) || (!(a0_5 == 0) || (!(a0_6 == 0) || (!(a0_7.toList == ([] : List UInt8)))))) = true then (some false) else (if a0_8 = 0 then (some ((l0_9.length : Int) == 0)) else (some false))) = some r := by rw [if_neg (show ¬ (false = true) by decide)] at H; exact H
       clear H
       have H := H1
       clear H1
       by_cases c23 : (!(a0_4 == 0) || (!(a0_5 == 0) || (!(a0_6 == 0) || (!(a0_7.toList == ([] : List UInt8)))))) = true
       ·rw [if_pos c23] at H
        have c23v : (a0_4 == 0) = false ∨ (a0_5 == 0) = false ∨ (a0_6 == 0) = false ∨ (a0_7.toList == ([] : List UInt8)) = false := by revert c23; cases (a0_4 == 0) <;> cases (a0_5 == 0) <;> cases (a0_6 == 0) <;> cases (a0_7.toList == ([] : List UInt8)) <;> simp
        rcases c23v with c23d | c23d | c23d | c23d
        all_goals
         try have c23e : a0_7.toList.isEmpty = false := by revert c23d; cases a0_7.toList <;> simp
         clear c23
         obtain rfl := Option.some.inj H
         have hcz24_0 : wc.cell? ⟨gb183, 0, none⟩ = some (.int .i64 a0_0) := (blk_cell BK183.out 0).trans rfl
         have hcz24_1 : wc.cell? ⟨gb183, 1, none⟩ = some (.int .i64 a0_1) := (blk_cell BK183.out 1).trans rfl
         have hcz24_2 : wc.cell? ⟨gb183, 2, none⟩ = some (.bool false) := (blk_cell BK183.out 2).trans rfl
         have hcz24_3 : wc.cell? ⟨gb183, 3, none⟩ = some (.string a0_3) := (blk_cell BK183.out 3).trans rfl
         have hcz24_4 : wc.cell? ⟨gb183, 4, none⟩ = some (.int .i64 a0_4) := (blk_cell BK183.out 4).trans rfl
         have hcz24_5 : wc.cell? ⟨gb183, 5, none⟩ = some (.int .i64 a0_5) := (blk_cell BK183.out 5).trans rfl
         have hcz24_6 : wc.cell? ⟨gb183, 6, none⟩ = some (.int .i64 a0_6) := (blk_cell BK183.out 6).trans rfl
         have hcz24_7 : wc.cell? ⟨gb183, 7, none⟩ = some (.string a0_7) := (blk_cell BK183.out 7).trans rfl
         have hcz24_8 : wc.cell? ⟨gb183, 8, none⟩ = some (.int .u64 a0_8) := (blk_cell BK183.out 8).trans rfl
         have hcz24_9 : wc.cell? ⟨gb183, 9, none⟩ = some (.slice A0_9 l0_9.length c0_9) := (blk_cell BK183.out 9).trans rfl
         have hfz24_0 := blk_frozen BK183.out 0
         have hfz24_1 := blk_frozen BK183.out 1
         have hfz24_2 := blk_frozen BK183.out 2
         have hfz24_3 := blk_frozen BK183.out 3
         have hfz24_4 := blk_frozen BK183.out 4
         have hfz24_5 := blk_frozen BK183.out 5
         have hfz24_6 := blk_frozen BK183.out 6
         have hfz24_7 := blk_frozen BK183.out 7
         have hfz24_8 := blk_frozen BK183.out 8
         have hfz24_9 := blk_frozen BK183.out 9
         go_wp2_with (first | ((with_reducible refine gate_callee (f := 27) rfl ?_); refine goesL_ (some 17) rfl rfl Try.func27 (by kernel_rfl) rfl #[.string a0_3] rfl (by (try simp only [List.map_toArray, List.map_cons, List.map_nil]); first | done | rfl | (simp only [List.length_drop, List.length_take]; rfl)) ?_; (with_reducible refine (rollcallref03_Is.calls kj1 a0_3 true _ A9.out).mono ?_); rintro e w' ⟨rfl, ⟨nd, rfl⟩⟩; refine ⟨_, rfl, ?_⟩))
         go_ret
         exact ⟨by first | rfl | (simp [errW_none, errW_some] <;> rfl) | (simp [*, errW_none, errW_some] <;> rfl), by repeat (first | (with_reducible first | exact HB.out | apply below_alloc | apply pw_below_drewN | apply below_drew1 | refine below_set ?_ GE183.out) | exact HB.out)⟩
       ·rw [if_neg c23] at H
        have c23v : (a0_4 == 0) = true ∧ (a0_5 == 0) = true ∧ (a0_6 == 0) = true ∧ (a0_7.toList == ([] : List UInt8)) = true := by revert c23; cases (a0_4 == 0) <;> cases (a0_5 == 0) <;> cases (a0_6 == 0) <;> cases (a0_7.toList == ([] : List UInt8)) <;> simp
        obtain ⟨c23d0, c23d1, c23d2, c23d3⟩ := c23v
        have c23e : a0_7.toList.isEmpty = true := by revert c23d3; cases a0_7.toList <;> simp
        clear c23
        by_cases c25 : a0_8 = 0
        ·rw [if_pos c25] at H
         have c25b0 : (a0_8 == 0) = true := beq_iff_eq.mpr c25
         have c25b1 : (a0_8 != 0) = false := bne_eq_false_iff_eq.mpr c25
         clear c25
         obtain rfl := Option.some.inj H
         have hcz26_0 : wc.cell? ⟨gb183, 0, none⟩ = some (.int .i64 a0_0) := (blk_cell BK183.out 0).trans rfl
         have hcz26_1 : wc.cell? ⟨gb183, 1, none⟩ = some (.int .i64 a0_1) := (blk_cell BK183.out 1).trans rfl
         have hcz26_2 : wc.cell? ⟨gb183, 2, none⟩ = some (.bool false) := (blk_cell BK183.out 2).trans rfl
         have hcz26_3 : wc.cell? ⟨gb183, 3, none⟩ = some (.string a0_3) := (blk_cell BK183.out 3).trans rfl
         have hcz26_4 : wc.cell? ⟨gb183, 4, none⟩ = some (.int .i64 a0_4) := (blk_cell BK183.out 4).trans rfl
         have hcz26_5 : wc.cell? ⟨gb183, 5, none⟩ = some (.int .i64 a0_5) := (blk_cell BK183.out 5).trans rfl
         have hcz26_6 : wc.cell? ⟨gb183, 6, none⟩ = some (.int .i64 a0_6) := (blk_cell BK183.out 6).trans rfl
         have hcz26_7 : wc.cell? ⟨gb183, 7, none⟩ = some (.string a0_7) := (blk_cell BK183.out 7).trans rfl
         have hcz26_8 : wc.cell? ⟨gb183, 8, none⟩ = some (.int .u64 a0_8) := (blk_cell BK183.out 8).trans rfl
         have hcz26_9 : wc.cell? ⟨gb183, 9, none⟩ = some (.slice A0_9 l0_9.length c0_9) := (blk_cell BK183.out 9).trans rfl
         have hfz26_0 := blk_frozen BK183.out 0
         have hfz26_1 := blk_frozen BK183.out 1
         have hfz26_2 := blk_frozen BK183.out 2
         have hfz26_3 := blk_frozen BK183.out 3
         have hfz26_4 := blk_frozen BK183.out 4
         have hfz26_5 := blk_frozen BK183.out 5
         have hfz26_6 := blk_frozen BK183.out 6
         have hfz26_7 := blk_frozen BK183.out 7
         have hfz26_8 := blk_frozen BK183.out 8
         have hfz26_9 := blk_frozen BK183.out 9
         go_wp2_with (first | ((with_reducible refine gate_callee (f := 27) rfl ?_); refine goesL_ (some 17) rfl rfl Try.func27 (by kernel_rfl) rfl #[.string a0_3] rfl (by (try simp only [List.map_toArray, List.map_cons, List.map_nil]); first | done | rfl | (simp only [List.length_drop, List.length_take]; rfl)) ?_; (with_reducible refine (rollcallref03_Is.calls kj1 a0_3 true _ A9.out).mono ?_); rintro e w' ⟨rfl, ⟨nd, rfl⟩⟩; refine ⟨_, rfl, ?_⟩))
         go_ret
         exact ⟨by first | rfl | (simp [errW_none, errW_some] <;> rfl) | (simp [*, errW_none, errW_some] <;> rfl), by repeat (first | (with_reducible first | exact HB.out | apply below_alloc | apply pw_below_drewN | apply below_drew1 | refine below_set ?_ GE183.out) | exact HB.out)⟩
        ·rw [if_neg c25] at H
         have c25b0 : (a0_8 == 0) = false := beq_eq_false_iff_ne.mpr c25
         have c25b1 : (a0_8 != 0) = true := bne_iff_ne.mpr c25
         obtain rfl := Option.some.inj H
         have hcz27_0 : wc.cell? ⟨gb183, 0, none⟩ = some (.int .i64 a0_0) := (blk_cell BK183.out 0).trans rfl
         have hcz27_1 : wc.cell? ⟨gb183, 1, none⟩ = some (.int .i64 a0_1) := (blk_cell BK183.out 1).trans rfl
         have hcz27_2 : wc.cell? ⟨gb183, 2, none⟩ = some (.bool false) := (blk_cell BK183.out 2).trans rfl
         have hcz27_3 : wc.cell? ⟨gb183, 3, none⟩ = some (.string a0_3) := (blk_cell BK183.out 3).trans rfl
         have hcz27_4 : wc.cell? ⟨gb183, 4, none⟩ = some (.int .i64 a0_4) := (blk_cell BK183.out 4).trans rfl
         have hcz27_5 : wc.cell? ⟨gb183, 5, none⟩ = some (.int .i64 a0_5) := (blk_cell BK183.out 5).trans rfl
         have hcz27_6 : wc.cell? ⟨gb183, 6, none⟩ = some (.int .i64 a0_6) := (blk_cell BK183.out 6).trans rfl
         have hcz27_7 : wc.cell? ⟨gb183, 7, none⟩ = some (.string a0_7) := (blk_cell BK183.out 7).trans rfl
         have hcz27_8 : wc.cell? ⟨gb183, 8, none⟩ = some (.int .u64 a0_8) := (blk_cell BK183.out 8).trans rfl
         have hcz27_9 : wc.cell? ⟨gb183, 9, none⟩ = some (.slice A0_9 l0_9.length c0_9) := (blk_cell BK183.out 9).trans rfl
         have hfz27_0 := blk_frozen BK183.out 0
         have hfz27_1 := blk_frozen BK183.out 1
         have hfz27_2 := blk_frozen BK183.out 2
         have hfz27_3 := blk_frozen BK183.out 3
         have hfz27_4 := blk_frozen BK183.out 4
         have hfz27_5 := blk_frozen BK183.out 5
         have hfz27_6 := blk_frozen BK183.out 6
         have hfz27_7 := blk_frozen BK183.out 7
         have hfz27_8 := blk_frozen BK183.out 8
         have hfz27_9 := blk_frozen BK183.out 9
         go_wp2_with (first | ((with_reducible refine gate_callee (f := 27) rfl ?_); refine goesL_ (some 17) rfl rfl Try.func27 (by kernel_rfl) rfl #[.string a0_3] rfl (by (try simp only [List.map_toArray, List.map_cons, List.map_nil]); first | done | rfl | (simp only [List.length_drop, List.length_take]; rfl)) ?_; (with_reducible refine (rollcallref03_Is.calls kj1 a0_3 true _ A9.out).mono ?_); rintro e w' ⟨rfl, ⟨nd, rfl⟩⟩; refine ⟨_, rfl, ?_⟩))
         go_ret
         exact ⟨by first | rfl | (simp [errW_none, errW_some] <;> rfl) | (simp [*, errW_none, errW_some] <;> rfl), by repeat (first | (with_reducible first | exact HB.out | apply below_alloc | apply pw_below_drewN | apply below_drew1 | refine below_set ?_ GE183.out) | exact HB.out)⟩
     ·replace c10 := Bool.eq_false_iff.mpr c10
      subst c10
      have H1 : (some false) = some r := by rw [if_neg (show ¬ (false = true) by decide)] at H; exact H
      clear H
      have H := H1
      clear H1
      obtain rfl := Option.some.inj H
      have hcz28_0 : wc.cell? ⟨gb183, 0, none⟩ = some (.int .i64 a0_0) := (blk_cell BK183.out 0).trans rfl
      have hcz28_1 : wc.cell? ⟨gb183, 1, none⟩ = some (.int .i64 a0_1) := (blk_cell BK183.out 1).trans rfl
      have hcz28_2 : wc.cell? ⟨gb183, 2, none⟩ = some (.bool a0_2) := (blk_cell BK183.out 2).trans rfl
      have hcz28_3 : wc.cell? ⟨gb183, 3, none⟩ = some (.string a0_3) := (blk_cell BK183.out 3).trans rfl
      have hcz28_4 : wc.cell? ⟨gb183, 4, none⟩ = some (.int .i64 a0_4) := (blk_cell BK183.out 4).trans rfl
      have hcz28_5 : wc.cell? ⟨gb183, 5, none⟩ = some (.int .i64 a0_5) := (blk_cell BK183.out 5).trans rfl
      have hcz28_6 : wc.cell? ⟨gb183, 6, none⟩ = some (.int .i64 a0_6) := (blk_cell BK183.out 6).trans rfl
      have hcz28_7 : wc.cell? ⟨gb183, 7, none⟩ = some (.string a0_7) := (blk_cell BK183.out 7).trans rfl
      have hcz28_8 : wc.cell? ⟨gb183, 8, none⟩ = some (.int .u64 a0_8) := (blk_cell BK183.out 8).trans rfl
      have hcz28_9 : wc.cell? ⟨gb183, 9, none⟩ = some (.slice A0_9 l0_9.length c0_9) := (blk_cell BK183.out 9).trans rfl
      have hfz28_0 := blk_frozen BK183.out 0
      have hfz28_1 := blk_frozen BK183.out 1
      have hfz28_2 := blk_frozen BK183.out 2
      have hfz28_3 := blk_frozen BK183.out 3
      have hfz28_4 := blk_frozen BK183.out 4
      have hfz28_5 := blk_frozen BK183.out 5
      have hfz28_6 := blk_frozen BK183.out 6
      have hfz28_7 := blk_frozen BK183.out 7
      have hfz28_8 := blk_frozen BK183.out 8
      have hfz28_9 := blk_frozen BK183.out 9
      go_wp2_with (first | ((with_reducible refine gate_callee (f := 27) rfl ?_); refine goesL_ (some 17) rfl rfl Try.func27 (by kernel_rfl) rfl #[.string a0_3] rfl (by (try simp only [List.map_toArray, List.map_cons, List.map_nil]); first | done | rfl | (simp only [List.length_drop, List.length_take]; rfl)) ?_; (with_reducible refine (rollcallref03_Is.calls kj1 a0_3 false _ A9.out).mono ?_); rintro e w' ⟨rfl, ⟨nd, rfl⟩⟩; refine ⟨_, rfl, ?_⟩))
      go_ret
      exact ⟨by first | rfl | (simp [errW_none, errW_some] <;> rfl) | (simp [*, errW_none, errW_some] <;> rfl), by repeat (first | (with_reducible first | exact HB.out | apply below_alloc | apply pw_below_drewN | apply below_drew1 | refine below_set ?_ GE183.out) | exact HB.out)⟩
    ·rw [if_neg c8] at H
     have c8b0 : (a0_0 == 1) = false := beq_eq_false_iff_ne.mpr c8
     have c8b1 : (a0_0 != 1) = true := bne_iff_ne.mpr c8
     by_cases c29 : a0_0 = 2
     ·rw [if_pos c29] at H
      have c29b0 : (a0_0 == 2) = true := beq_iff_eq.mpr c29
      have c29b1 : (a0_0 != 2) = false := bne_eq_false_iff_eq.mpr c29
      clear c29
      by_cases c30 : a0_2 = true
      ·subst c30
       have H1 : (some false) = some r := by rw [if_pos rfl] at H; exact H
       clear H
       have H := H1
       clear H1
       obtain rfl := Option.some.inj H
       have hcz31_0 : wc.cell? ⟨gb183, 0, none⟩ = some (.int .i64 a0_0) := (blk_cell BK183.out 0).trans rfl
       have hcz31_1 : wc.cell? ⟨gb183, 1, none⟩ = some (.int .i64 a0_1) := (blk_cell BK183.out 1).trans rfl
       have hcz31_2 : wc.cell? ⟨gb183, 2, none⟩ = some (.bool true) := (blk_cell BK183.out 2).trans rfl
       have hcz31_3 : wc.cell? ⟨gb183, 3, none⟩ = some (.string a0_3) := (blk_cell BK183.out 3).trans rfl
       have hcz31_4 : wc.cell? ⟨gb183, 4, none⟩ = some (.int .i64 a0_4) := (blk_cell BK183.out 4).trans rfl
       have hcz31_5 : wc.cell? ⟨gb183, 5, none⟩ = some (.int .i64 a0_5) := (blk_cell BK183.out 5).trans rfl
       have hcz31_6 : wc.cell? ⟨gb183, 6, none⟩ = some (.int .i64 a0_6) := (blk_cell BK183.out 6).trans rfl
       have hcz31_7 : wc.cell? ⟨gb183, 7, none⟩ = some (.string a0_7) := (blk_cell BK183.out 7).trans rfl
       have hcz31_8 : wc.cell? ⟨gb183, 8, none⟩ = some (.int .u64 a0_8) := (blk_cell BK183.out 8).trans rfl
       have hcz31_9 : wc.cell? ⟨gb183, 9, none⟩ = some (.slice A0_9 l0_9.length c0_9) := (blk_cell BK183.out 9).trans rfl
       have hfz31_0 := blk_frozen BK183.out 0
       have hfz31_1 := blk_frozen BK183.out 1
       have hfz31_2 := blk_frozen BK183.out 2
       have hfz31_3 := blk_frozen BK183.out 3
       have hfz31_4 := blk_frozen BK183.out 4
       have hfz31_5 := blk_frozen BK183.out 5
       have hfz31_6 := blk_frozen BK183.out 6
       have hfz31_7 := blk_frozen BK183.out 7
       have hfz31_8 := blk_frozen BK183.out 8
       have hfz31_9 := blk_frozen BK183.out 9
       go_wp2
       go_ret
       exact ⟨by first | rfl | (simp [errW_none, errW_some] <;> rfl) | (simp [*, errW_none, errW_some] <;> rfl), by repeat (first | (with_reducible first | exact HB.out | apply below_alloc | apply pw_below_drewN | apply below_drew1 | refine below_set ?_ GE183.out) | exact HB.out)⟩
      ·replace c30 := Bool.eq_false_iff.mpr c30
       subst c30
       have H1 : (if a0_3.toList = ([] : List UInt8) then (if (a0_4 == 0 && (a0_5 == 0 && (a0_6 == 0 && (a0_7.toList == ([] : List UInt8))))) = true then (some ((l0_9.length : Int) == 0)) else (some false)) else (some false)) = some r := by rw [if_neg (show ¬ (false = true) by decide)] at H; exact H
       clear H
       have H := H1
       clear H1
       by_cases c32 : a0_3.toList = ([] : List UInt8)
       ·rw [if_pos c32] at H
        have c32b0 : (a0_3.toList == ([] : List UInt8)) = true := beq_iff_eq.mpr c32
        have c32b1 : (a0_3.toList != ([] : List UInt8)) = false := bne_eq_false_iff_eq.mpr c32
        clear c32
        by_cases c33 : (a0_4 == 0 && (a0_5 == 0 && (a0_6 == 0 && (a0_7.toList == ([] : List UInt8))))) = true
        ·rw [if_pos c33] at H
         have c33b0 : (a0_4 == 0 && (a0_5 == 0 && (a0_6 == 0 && (a0_7.toList == ([] : List UInt8))))) = true := c33
         (try (have cz1_ := c33b0; simp only [List.beq_nil_eq] at cz1_))
         (try (have c33b1 : decide (a0_4 = 0 && (a0_5 == 0 && (a0_6 == 0 && (a0_7.toList == ([] : List UInt8))))) = true := by simpa using c33))
         (try (have c33b2 : (a0_4 == 0 && (a0_5 == 0 && (a0_6 == 0 && (a0_7.toList == ([] : List UInt8))))) = true := by simpa using c33))
         clear c33
         obtain rfl := Option.some.inj H
         have hcz34_0 : wc.cell? ⟨gb183, 0, none⟩ = some (.int .i64 a0_0) := (blk_cell BK183.out 0).trans rfl
         have hcz34_1 : wc.cell? ⟨gb183, 1, none⟩ = some (.int .i64 a0_1) := (blk_cell BK183.out 1).trans rfl
         have hcz34_2 : wc.cell? ⟨gb183, 2, none⟩ = some (.bool false) := (blk_cell BK183.out 2).trans rfl
         have hcz34_3 : wc.cell? ⟨gb183, 3, none⟩ = some (.string a0_3) := (blk_cell BK183.out 3).trans rfl
         have hcz34_4 : wc.cell? ⟨gb183, 4, none⟩ = some (.int .i64 a0_4) := (blk_cell BK183.out 4).trans rfl
         have hcz34_5 : wc.cell? ⟨gb183, 5, none⟩ = some (.int .i64 a0_5) := (blk_cell BK183.out 5).trans rfl
         have hcz34_6 : wc.cell? ⟨gb183, 6, none⟩ = some (.int .i64 a0_6) := (blk_cell BK183.out 6).trans rfl
         have hcz34_7 : wc.cell? ⟨gb183, 7, none⟩ = some (.string a0_7) := (blk_cell BK183.out 7).trans rfl
         have hcz34_8 : wc.cell? ⟨gb183, 8, none⟩ = some (.int .u64 a0_8) := (blk_cell BK183.out 8).trans rfl
         have hcz34_9 : wc.cell? ⟨gb183, 9, none⟩ = some (.slice A0_9 l0_9.length c0_9) := (blk_cell BK183.out 9).trans rfl
         have hfz34_0 := blk_frozen BK183.out 0
         have hfz34_1 := blk_frozen BK183.out 1
         have hfz34_2 := blk_frozen BK183.out 2
         have hfz34_3 := blk_frozen BK183.out 3
         have hfz34_4 := blk_frozen BK183.out 4
         have hfz34_5 := blk_frozen BK183.out 5
         have hfz34_6 := blk_frozen BK183.out 6
         have hfz34_7 := blk_frozen BK183.out 7
         have hfz34_8 := blk_frozen BK183.out 8
         have hfz34_9 := blk_frozen BK183.out 9
         go_wp2
         go_ret
         exact ⟨by first | rfl | (simp [errW_none, errW_some] <;> rfl) | (simp [*, errW_none, errW_some] <;> rfl), by repeat (first | (with_reducible first | exact HB.out | apply below_alloc | apply pw_below_drewN | apply below_drew1 | refine below_set ?_ GE183.out) | exact HB.out)⟩
        ·rw [if_neg c33] at H
         have c33b0 : (a0_4 == 0 && (a0_5 == 0 && (a0_6 == 0 && (a0_7.toList == ([] : List UInt8))))) = false := by simpa using c33
         (try (have cz2_ := c33b0; simp only [List.beq_nil_eq] at cz2_))
         (try (have c33b1 : decide (a0_4 = 0 && (a0_5 == 0 && (a0_6 == 0 && (a0_7.toList == ([] : List UInt8))))) = false := by simpa using c33))
         (try (have c33b2 : (a0_4 == 0 && (a0_5 == 0 && (a0_6 == 0 && (a0_7.toList == ([] : List UInt8))))) = false := by simpa using c33))
         (try (have c33b3 : ¬ (a0_4 = 0 && (a0_5 == 0 && (a0_6 == 0 && (a0_7.toList == ([] : List UInt8))))) := by simpa using c33))
         clear c33
         obtain rfl := Option.some.inj H
         have hcz35_0 : wc.cell? ⟨gb183, 0, none⟩ = some (.int .i64 a0_0) := (blk_cell BK183.out 0).trans rfl
         have hcz35_1 : wc.cell? ⟨gb183, 1, none⟩ = some (.int .i64 a0_1) := (blk_cell BK183.out 1).trans rfl
         have hcz35_2 : wc.cell? ⟨gb183, 2, none⟩ = some (.bool false) := (blk_cell BK183.out 2).trans rfl
         have hcz35_3 : wc.cell? ⟨gb183, 3, none⟩ = some (.string a0_3) := (blk_cell BK183.out 3).trans rfl
         have hcz35_4 : wc.cell? ⟨gb183, 4, none⟩ = some (.int .i64 a0_4) := (blk_cell BK183.out 4).trans rfl
         have hcz35_5 : wc.cell? ⟨gb183, 5, none⟩ = some (.int .i64 a0_5) := (blk_cell BK183.out 5).trans rfl
         have hcz35_6 : wc.cell? ⟨gb183, 6, none⟩ = some (.int .i64 a0_6) := (blk_cell BK183.out 6).trans rfl
         have hcz35_7 : wc.cell? ⟨gb183, 7, none⟩ = some (.string a0_7) := (blk_cell BK183.out 7).trans rfl
         have hcz35_8 : wc.cell? ⟨gb183, 8, none⟩ = some (.int .u64 a0_8) := (blk_cell BK183.out 8).trans rfl
         have hcz35_9 : wc.cell? ⟨gb183, 9, none⟩ = some (.slice A0_9 l0_9.length c0_9) := (blk_cell BK183.out 9).trans rfl
         have hfz35_0 := blk_frozen BK183.out 0
         have hfz35_1 := blk_frozen BK183.out 1
         have hfz35_2 := blk_frozen BK183.out 2
         have hfz35_3 := blk_frozen BK183.out 3
         have hfz35_4 := blk_frozen BK183.out 4
         have hfz35_5 := blk_frozen BK183.out 5
         have hfz35_6 := blk_frozen BK183.out 6
         have hfz35_7 := blk_frozen BK183.out 7
         have hfz35_8 := blk_frozen BK183.out 8
         have hfz35_9 := blk_frozen BK183.out 9
         go_wp2
         go_ret
         exact ⟨by first | rfl | (simp [errW_none, errW_some] <;> rfl) | (simp [*, errW_none, errW_some] <;> rfl), by repeat (first | (with_reducible first | exact HB.out | apply below_alloc | apply pw_below_drewN | apply below_drew1 | refine below_set ?_ GE183.out) | exact HB.out)⟩
       ·rw [if_neg c32] at H
        have c32b0 : (a0_3.toList == ([] : List UInt8)) = false := beq_eq_false_iff_ne.mpr c32
        have c32b1 : (a0_3.toList != ([] : List UInt8)) = true := bne_iff_ne.mpr c32
        obtain rfl := Option.some.inj H
        have hcz36_0 : wc.cell? ⟨gb183, 0, none⟩ = some (.int .i64 a0_0) := (blk_cell BK183.out 0).trans rfl
        have hcz36_1 : wc.cell? ⟨gb183, 1, none⟩ = some (.int .i64 a0_1) := (blk_cell BK183.out 1).trans rfl
        have hcz36_2 : wc.cell? ⟨gb183, 2, none⟩ = some (.bool false) := (blk_cell BK183.out 2).trans rfl
        have hcz36_3 : wc.cell? ⟨gb183, 3, none⟩ = some (.string a0_3) := (blk_cell BK183.out 3).trans rfl
        have hcz36_4 : wc.cell? ⟨gb183, 4, none⟩ = some (.int .i64 a0_4) := (blk_cell BK183.out 4).trans rfl
        have hcz36_5 : wc.cell? ⟨gb183, 5, none⟩ = some (.int .i64 a0_5) := (blk_cell BK183.out 5).trans rfl
        have hcz36_6 : wc.cell? ⟨gb183, 6, none⟩ = some (.int .i64 a0_6) := (blk_cell BK183.out 6).trans rfl
        have hcz36_7 : wc.cell? ⟨gb183, 7, none⟩ = some (.string a0_7) := (blk_cell BK183.out 7).trans rfl
        have hcz36_8 : wc.cell? ⟨gb183, 8, none⟩ = some (.int .u64 a0_8) := (blk_cell BK183.out 8).trans rfl
        have hcz36_9 : wc.cell? ⟨gb183, 9, none⟩ = some (.slice A0_9 l0_9.length c0_9) := (blk_cell BK183.out 9).trans rfl
        have hfz36_0 := blk_frozen BK183.out 0
        have hfz36_1 := blk_frozen BK183.out 1
        have hfz36_2 := blk_frozen BK183.out 2
        have hfz36_3 := blk_frozen BK183.out 3
        have hfz36_4 := blk_frozen BK183.out 4
        have hfz36_5 := blk_frozen BK183.out 5
        have hfz36_6 := blk_frozen BK183.out 6
        have hfz36_7 := blk_frozen BK183.out 7
        have hfz36_8 := blk_frozen BK183.out 8
        have hfz36_9 := blk_frozen BK183.out 9
        go_wp2
        go_ret
        exact ⟨by first | rfl | (simp [errW_none, errW_some] <;> rfl) | (simp [*, errW_none, errW_some] <;> rfl), by repeat (first | (with_reducible first | exact HB.out | apply below_alloc | apply pw_below_drewN | apply below_drew1 | refine below_set ?_ GE183.out) | exact HB.out)⟩
     ·rw [if_neg c29] at H
      have c29b0 : (a0_0 == 2) = false := beq_eq_false_iff_ne.mpr c29
      have c29b1 : (a0_0 != 2) = true := bne_iff_ne.mpr c29
      by_cases c37 : a0_0 = 3
      ·rw [if_pos c37] at H
       have c37b0 : (a0_0 == 3) = true := beq_iff_eq.mpr c37
       have c37b1 : (a0_0 != 3) = false := bne_eq_false_iff_eq.mpr c37
       clear c37
       by_cases c38 : a0_2 = true
       ·subst c38
        have H1 : (some false) = some r := by rw [if_pos rfl] at H; exact H
        clear H
        have H := H1
        clear H1
        obtain rfl := Option.some.inj H
        have hcz39_0 : wc.cell? ⟨gb183, 0, none⟩ = some (.int .i64 a0_0) := (blk_cell BK183.out 0).trans rfl
        have hcz39_1 : wc.cell? ⟨gb183, 1, none⟩ = some (.int .i64 a0_1) := (blk_cell BK183.out 1).trans rfl
        have hcz39_2 : wc.cell? ⟨gb183, 2, none⟩ = some (.bool true) := (blk_cell BK183.out 2).trans rfl
        have hcz39_3 : wc.cell? ⟨gb183, 3, none⟩ = some (.string a0_3) := (blk_cell BK183.out 3).trans rfl
        have hcz39_4 : wc.cell? ⟨gb183, 4, none⟩ = some (.int .i64 a0_4) := (blk_cell BK183.out 4).trans rfl
        have hcz39_5 : wc.cell? ⟨gb183, 5, none⟩ = some (.int .i64 a0_5) := (blk_cell BK183.out 5).trans rfl
        have hcz39_6 : wc.cell? ⟨gb183, 6, none⟩ = some (.int .i64 a0_6) := (blk_cell BK183.out 6).trans rfl
        have hcz39_7 : wc.cell? ⟨gb183, 7, none⟩ = some (.string a0_7) := (blk_cell BK183.out 7).trans rfl
        have hcz39_8 : wc.cell? ⟨gb183, 8, none⟩ = some (.int .u64 a0_8) := (blk_cell BK183.out 8).trans rfl
        have hcz39_9 : wc.cell? ⟨gb183, 9, none⟩ = some (.slice A0_9 l0_9.length c0_9) := (blk_cell BK183.out 9).trans rfl
        have hfz39_0 := blk_frozen BK183.out 0
        have hfz39_1 := blk_frozen BK183.out 1
        have hfz39_2 := blk_frozen BK183.out 2
        have hfz39_3 := blk_frozen BK183.out 3
        have hfz39_4 := blk_frozen BK183.out 4
        have hfz39_5 := blk_frozen BK183.out 5
        have hfz39_6 := blk_frozen BK183.out 6
        have hfz39_7 := blk_frozen BK183.out 7
        have hfz39_8 := blk_frozen BK183.out 8
        have hfz39_9 := blk_frozen BK183.out 9
        go_wp2
        go_ret
        exact ⟨by first | rfl | (simp [errW_none, errW_some] <;> rfl) | (simp [*, errW_none, errW_some] <;> rfl), by repeat (first | (with_reducible first | exact HB.out | apply below_alloc | apply pw_below_drewN | apply below_drew1 | refine below_set ?_ GE183.out) | exact HB.out)⟩
       ·replace c38 := Bool.eq_false_iff.mpr c38
        subst c38
        have H1 : (if a0_3.toList = ([] : List UInt8) then (if (a0_4 == 0 && (a0_5 == 0 && (a0_6 == 0 && (a0_7.toList == ([] : List UInt8))))) = true then (if a0_8 = 0 then ((rollcallref05_May.f kj1 l0_9).bind fun t186 => (some t186)) else (some false)) else (some false)) else (some false)) = some r := by rw [if_neg (show ¬ (false = true) by decide)] at H; exact H
        clear H
        have H := H1
        clear H1
        by_cases c40 : a0_3.toList = ([] : List UInt8)
        ·rw [if_pos c40] at H
         have c40b0 : (a0_3.toList == ([] : List UInt8)) = true := beq_iff_eq.mpr c40
         have c40b1 : (a0_3.toList != ([] : List UInt8)) = false := bne_eq_false_iff_eq.mpr c40
         clear c40
         by_cases c41 : (a0_4 == 0 && (a0_5 == 0 && (a0_6 == 0 && (a0_7.toList == ([] : List UInt8))))) = true
         ·rw [if_pos c41] at H
          have c41b0 : (a0_4 == 0 && (a0_5 == 0 && (a0_6 == 0 && (a0_7.toList == ([] : List UInt8))))) = true := c41
          (try (have cz3_ := c41b0; simp only [List.beq_nil_eq] at cz3_))
          (try (have c41b1 : decide (a0_4 = 0 && (a0_5 == 0 && (a0_6 == 0 && (a0_7.toList == ([] : List UInt8))))) = true := by simpa using c41))
          (try (have c41b2 : (a0_4 == 0 && (a0_5 == 0 && (a0_6 == 0 && (a0_7.toList == ([] : List UInt8))))) = true := by simpa using c41))
          clear c41
          by_cases c42 : a0_8 = 0
          ·rw [if_pos c42] at H
           have c42b0 : (a0_8 == 0) = true := beq_iff_eq.mpr c42
           have c42b1 : (a0_8 != 0) = false := bne_eq_false_iff_eq.mpr c42
           clear c42
           replace H := Option.bind_eq_some_iff.mp H
           obtain ⟨t186, A430, H⟩ := H
           replace H : (some t186) = some r := H
           have A43 := Aside0.mk A430
           clear A430
           obtain rfl := Option.some.inj H
           have hcz44_0 : wc.cell? ⟨gb183, 0, none⟩ = some (.int .i64 a0_0) := (blk_cell BK183.out 0).trans rfl
           have hcz44_1 : wc.cell? ⟨gb183, 1, none⟩ = some (.int .i64 a0_1) := (blk_cell BK183.out 1).trans rfl
           have hcz44_2 : wc.cell? ⟨gb183, 2, none⟩ = some (.bool false) := (blk_cell BK183.out 2).trans rfl
           have hcz44_3 : wc.cell? ⟨gb183, 3, none⟩ = some (.string a0_3) := (blk_cell BK183.out 3).trans rfl
           have hcz44_4 : wc.cell? ⟨gb183, 4, none⟩ = some (.int .i64 a0_4) := (blk_cell BK183.out 4).trans rfl
           have hcz44_5 : wc.cell? ⟨gb183, 5, none⟩ = some (.int .i64 a0_5) := (blk_cell BK183.out 5).trans rfl
           have hcz44_6 : wc.cell? ⟨gb183, 6, none⟩ = some (.int .i64 a0_6) := (blk_cell BK183.out 6).trans rfl
           have hcz44_7 : wc.cell? ⟨gb183, 7, none⟩ = some (.string a0_7) := (blk_cell BK183.out 7).trans rfl
           have hcz44_8 : wc.cell? ⟨gb183, 8, none⟩ = some (.int .u64 a0_8) := (blk_cell BK183.out 8).trans rfl
           have hcz44_9 : wc.cell? ⟨gb183, 9, none⟩ = some (.slice A0_9 l0_9.length c0_9) := (blk_cell BK183.out 9).trans rfl
           have hfz44_0 := blk_frozen BK183.out 0
           have hfz44_1 := blk_frozen BK183.out 1
           have hfz44_2 := blk_frozen BK183.out 2
           have hfz44_3 := blk_frozen BK183.out 3
           have hfz44_4 := blk_frozen BK183.out 4
           have hfz44_5 := blk_frozen BK183.out 5
           have hfz44_6 := blk_frozen BK183.out 6
           have hfz44_7 := blk_frozen BK183.out 7
           have hfz44_8 := blk_frozen BK183.out 8
           have hfz44_9 := blk_frozen BK183.out 9
           go_wp2_with (first | (go_at_call 29; (with_reducible refine (rollcallref05_May.calls kj1 _ _ l0_9 t186 _ ?side1 ?side2 A43.out).mono ?_); (case side1 => repeat (first | exact (Kd.C_below HR0_9.out HB.out) | (with_reducible refine Kd.C_alloc ?_ _) | (with_reducible refine Kd.C_drewN ?_ _) | (with_reducible refine Kd.C_drew ?_))); (case side2 => exact HC0_9.out); rintro e w45 ⟨rfl, hb⟩; replace BK183 := Aside0.mk (blk_below (bS BK183.out) hb); replace HB := Aside0.mk (below_step (hS HB.out) hb); (try clear hb); (try clear hb2); (try clear hk); (try clear hi)))
           go_ret
           exact ⟨by first | rfl | (simp [errW_none, errW_some] <;> rfl) | (simp [*, errW_none, errW_some] <;> rfl), by repeat (first | (with_reducible first | exact HB.out | apply below_alloc | apply pw_below_drewN | apply below_drew1 | refine below_set ?_ GE183.out) | exact HB.out)⟩
          ·rw [if_neg c42] at H
           have c42b0 : (a0_8 == 0) = false := beq_eq_false_iff_ne.mpr c42
           have c42b1 : (a0_8 != 0) = true := bne_iff_ne.mpr c42
           obtain rfl := Option.some.inj H
           have hcz46_0 : wc.cell? ⟨gb183, 0, none⟩ = some (.int .i64 a0_0) := (blk_cell BK183.out 0).trans rfl
           have hcz46_1 : wc.cell? ⟨gb183, 1, none⟩ = some (.int .i64 a0_1) := (blk_cell BK183.out 1).trans rfl
           have hcz46_2 : wc.cell? ⟨gb183, 2, none⟩ = some (.bool false) := (blk_cell BK183.out 2).trans rfl
           have hcz46_3 : wc.cell? ⟨gb183, 3, none⟩ = some (.string a0_3) := (blk_cell BK183.out 3).trans rfl
           have hcz46_4 : wc.cell? ⟨gb183, 4, none⟩ = some (.int .i64 a0_4) := (blk_cell BK183.out 4).trans rfl
           have hcz46_5 : wc.cell? ⟨gb183, 5, none⟩ = some (.int .i64 a0_5) := (blk_cell BK183.out 5).trans rfl
           have hcz46_6 : wc.cell? ⟨gb183, 6, none⟩ = some (.int .i64 a0_6) := (blk_cell BK183.out 6).trans rfl
           have hcz46_7 : wc.cell? ⟨gb183, 7, none⟩ = some (.string a0_7) := (blk_cell BK183.out 7).trans rfl
           have hcz46_8 : wc.cell? ⟨gb183, 8, none⟩ = some (.int .u64 a0_8) := (blk_cell BK183.out 8).trans rfl
           have hcz46_9 : wc.cell? ⟨gb183, 9, none⟩ = some (.slice A0_9 l0_9.length c0_9) := (blk_cell BK183.out 9).trans rfl
           have hfz46_0 := blk_frozen BK183.out 0
           have hfz46_1 := blk_frozen BK183.out 1
           have hfz46_2 := blk_frozen BK183.out 2
           have hfz46_3 := blk_frozen BK183.out 3
           have hfz46_4 := blk_frozen BK183.out 4
           have hfz46_5 := blk_frozen BK183.out 5
           have hfz46_6 := blk_frozen BK183.out 6
           have hfz46_7 := blk_frozen BK183.out 7
           have hfz46_8 := blk_frozen BK183.out 8
           have hfz46_9 := blk_frozen BK183.out 9
           go_wp2
           go_ret
           exact ⟨by first | rfl | (simp [errW_none, errW_some] <;> rfl) | (simp [*, errW_none, errW_some] <;> rfl), by repeat (first | (with_reducible first | exact HB.out | apply below_alloc | apply pw_below_drewN | apply below_drew1 | refine below_set ?_ GE183.out) | exact HB.out)⟩
         ·rw [if_neg c41] at H
          have c41b0 : (a0_4 == 0 && (a0_5 == 0 && (a0_6 == 0 && (a0_7.toList == ([] : List UInt8))))) = false := by simpa using c41
          (try (have cz4_ := c41b0; simp only [List.beq_nil_eq] at cz4_))
          (try (have c41b1 : decide (a0_4 = 0 && (a0_5 == 0 && (a0_6 == 0 && (a0_7.toList == ([] : List UInt8))))) = false := by simpa using c41))
          (try (have c41b2 : (a0_4 == 0 && (a0_5 == 0 && (a0_6 == 0 && (a0_7.toList == ([] : List UInt8))))) = false := by simpa using c41))
          (try (have c41b3 : ¬ (a0_4 = 0 && (a0_5 == 0 && (a0_6 == 0 && (a0_7.toList == ([] : List UInt8))))) := by simpa using c41))
          clear c41
          obtain rfl := Option.some.inj H
          have hcz47_0 : wc.cell? ⟨gb183, 0, none⟩ = some (.int .i64 a0_0) := (blk_cell BK183.out 0).trans rfl
          have hcz47_1 : wc.cell? ⟨gb183, 1, none⟩ = some (.int .i64 a0_1) := (blk_cell BK183.out 1).trans rfl
          have hcz47_2 : wc.cell? ⟨gb183, 2, none⟩ = some (.bool false) := (blk_cell BK183.out 2).trans rfl
          have hcz47_3 : wc.cell? ⟨gb183, 3, none⟩ = some (.string a0_3) := (blk_cell BK183.out 3).trans rfl
          have hcz47_4 : wc.cell? ⟨gb183, 4, none⟩ = some (.int .i64 a0_4) := (blk_cell BK183.out 4).trans rfl
          have hcz47_5 : wc.cell? ⟨gb183, 5, none⟩ = some (.int .i64 a0_5) := (blk_cell BK183.out 5).trans rfl
          have hcz47_6 : wc.cell? ⟨gb183, 6, none⟩ = some (.int .i64 a0_6) := (blk_cell BK183.out 6).trans rfl
          have hcz47_7 : wc.cell? ⟨gb183, 7, none⟩ = some (.string a0_7) := (blk_cell BK183.out 7).trans rfl
          have hcz47_8 : wc.cell? ⟨gb183, 8, none⟩ = some (.int .u64 a0_8) := (blk_cell BK183.out 8).trans rfl
          have hcz47_9 : wc.cell? ⟨gb183, 9, none⟩ = some (.slice A0_9 l0_9.length c0_9) := (blk_cell BK183.out 9).trans rfl
          have hfz47_0 := blk_frozen BK183.out 0
          have hfz47_1 := blk_frozen BK183.out 1
          have hfz47_2 := blk_frozen BK183.out 2
          have hfz47_3 := blk_frozen BK183.out 3
          have hfz47_4 := blk_frozen BK183.out 4
          have hfz47_5 := blk_frozen BK183.out 5
          have hfz47_6 := blk_frozen BK183.out 6
          have hfz47_7 := blk_frozen BK183.out 7
          have hfz47_8 := blk_frozen BK183.out 8
          have hfz47_9 := blk_frozen BK183.out 9
          go_wp2
          go_ret
          exact ⟨by first | rfl | (simp [errW_none, errW_some] <;> rfl) | (simp [*, errW_none, errW_some] <;> rfl), by repeat (first | (with_reducible first | exact HB.out | apply below_alloc | apply pw_below_drewN | apply below_drew1 | refine below_set ?_ GE183.out) | exact HB.out)⟩
        ·rw [if_neg c40] at H
         have c40b0 : (a0_3.toList == ([] : List UInt8)) = false := beq_eq_false_iff_ne.mpr c40
         have c40b1 : (a0_3.toList != ([] : List UInt8)) = true := bne_iff_ne.mpr c40
         obtain rfl := Option.some.inj H
         have hcz48_0 : wc.cell? ⟨gb183, 0, none⟩ = some (.int .i64 a0_0) := (blk_cell BK183.out 0).trans rfl
         have hcz48_1 : wc.cell? ⟨gb183, 1, none⟩ = some (.int .i64 a0_1) := (blk_cell BK183.out 1).trans rfl
         have hcz48_2 : wc.cell? ⟨gb183, 2, none⟩ = some (.bool false) := (blk_cell BK183.out 2).trans rfl
         have hcz48_3 : wc.cell? ⟨gb183, 3, none⟩ = some (.string a0_3) := (blk_cell BK183.out 3).trans rfl
         have hcz48_4 : wc.cell? ⟨gb183, 4, none⟩ = some (.int .i64 a0_4) := (blk_cell BK183.out 4).trans rfl
         have hcz48_5 : wc.cell? ⟨gb183, 5, none⟩ = some (.int .i64 a0_5) := (blk_cell BK183.out 5).trans rfl
         have hcz48_6 : wc.cell? ⟨gb183, 6, none⟩ = some (.int .i64 a0_6) := (blk_cell BK183.out 6).trans rfl
         have hcz48_7 : wc.cell? ⟨gb183, 7, none⟩ = some (.string a0_7) := (blk_cell BK183.out 7).trans rfl
         have hcz48_8 : wc.cell? ⟨gb183, 8, none⟩ = some (.int .u64 a0_8) := (blk_cell BK183.out 8).trans rfl
         have hcz48_9 : wc.cell? ⟨gb183, 9, none⟩ = some (.slice A0_9 l0_9.length c0_9) := (blk_cell BK183.out 9).trans rfl
         have hfz48_0 := blk_frozen BK183.out 0
         have hfz48_1 := blk_frozen BK183.out 1
         have hfz48_2 := blk_frozen BK183.out 2
         have hfz48_3 := blk_frozen BK183.out 3
         have hfz48_4 := blk_frozen BK183.out 4
         have hfz48_5 := blk_frozen BK183.out 5
         have hfz48_6 := blk_frozen BK183.out 6
         have hfz48_7 := blk_frozen BK183.out 7
         have hfz48_8 := blk_frozen BK183.out 8
         have hfz48_9 := blk_frozen BK183.out 9
         go_wp2
         go_ret
         exact ⟨by first | rfl | (simp [errW_none, errW_some] <;> rfl) | (simp [*, errW_none, errW_some] <;> rfl), by repeat (first | (with_reducible first | exact HB.out | apply below_alloc | apply pw_below_drewN | apply below_drew1 | refine below_set ?_ GE183.out) | exact HB.out)⟩
      ·rw [if_neg c37] at H
       have c37b0 : (a0_0 == 3) = false := beq_eq_false_iff_ne.mpr c37
       have c37b1 : (a0_0 != 3) = true := bne_iff_ne.mpr c37
       by_cases c49 : a0_0 = 4
       ·rw [if_pos c49] at H
        have c49b0 : (a0_0 == 4) = true := beq_iff_eq.mpr c49
        have c49b1 : (a0_0 != 4) = false := bne_eq_false_iff_eq.mpr c49
        clear c49
        by_cases c50 : a0_2 = true
        ·subst c50
         have H1 : (some false) = some r := by rw [if_pos rfl] at H; exact H
         clear H
         have H := H1
         clear H1
         obtain rfl := Option.some.inj H
         have hcz51_0 : wc.cell? ⟨gb183, 0, none⟩ = some (.int .i64 a0_0) := (blk_cell BK183.out 0).trans rfl
         have hcz51_1 : wc.cell? ⟨gb183, 1, none⟩ = some (.int .i64 a0_1) := (blk_cell BK183.out 1).trans rfl
         have hcz51_2 : wc.cell? ⟨gb183, 2, none⟩ = some (.bool true) := (blk_cell BK183.out 2).trans rfl
         have hcz51_3 : wc.cell? ⟨gb183, 3, none⟩ = some (.string a0_3) := (blk_cell BK183.out 3).trans rfl
         have hcz51_4 : wc.cell? ⟨gb183, 4, none⟩ = some (.int .i64 a0_4) := (blk_cell BK183.out 4).trans rfl
         have hcz51_5 : wc.cell? ⟨gb183, 5, none⟩ = some (.int .i64 a0_5) := (blk_cell BK183.out 5).trans rfl
         have hcz51_6 : wc.cell? ⟨gb183, 6, none⟩ = some (.int .i64 a0_6) := (blk_cell BK183.out 6).trans rfl
         have hcz51_7 : wc.cell? ⟨gb183, 7, none⟩ = some (.string a0_7) := (blk_cell BK183.out 7).trans rfl
         have hcz51_8 : wc.cell? ⟨gb183, 8, none⟩ = some (.int .u64 a0_8) := (blk_cell BK183.out 8).trans rfl
         have hcz51_9 : wc.cell? ⟨gb183, 9, none⟩ = some (.slice A0_9 l0_9.length c0_9) := (blk_cell BK183.out 9).trans rfl
         have hfz51_0 := blk_frozen BK183.out 0
         have hfz51_1 := blk_frozen BK183.out 1
         have hfz51_2 := blk_frozen BK183.out 2
         have hfz51_3 := blk_frozen BK183.out 3
         have hfz51_4 := blk_frozen BK183.out 4
         have hfz51_5 := blk_frozen BK183.out 5
         have hfz51_6 := blk_frozen BK183.out 6
         have hfz51_7 := blk_frozen BK183.out 7
         have hfz51_8 := blk_frozen BK183.out 8
         have hfz51_9 := blk_frozen BK183.out 9
         go_wp2
         go_ret
         exact ⟨by first | rfl | (simp [errW_none, errW_some] <;> rfl) | (simp [*, errW_none, errW_some] <;> rfl), by repeat (first | (with_reducible first | exact HB.out | apply below_alloc | apply pw_below_drewN | apply below_drew1 | refine below_set ?_ GE183.out) | exact HB.out)⟩
        ·replace c50 := Bool.eq_false_iff.mpr c50
         subst c50
         have H1 : (if a0_3.toList = ([] : List UInt8) then (if (a0_4 == 0 && (a0_5 == 0 && (a0_6 == 0 && (a0_7.toList == ([] : List UInt8))))) = true then (if a0_8 = 0 then (some ((l0_9.length : Int) == 0)) else (some false)) else (some false)) else (some false)) = some r := by rw [if_neg (show ¬ (false = true) by decide)] at H; exact H
         clear H
         have H := H1
         clear H1
         by_cases c52 : a0_3.toList = ([] : List UInt8)
         ·rw [if_pos c52] at H
          have c52b0 : (a0_3.toList == ([] : List UInt8)) = true := beq_iff_eq.mpr c52
          have c52b1 : (a0_3.toList != ([] : List UInt8)) = false := bne_eq_false_iff_eq.mpr c52
          clear c52
          by_cases c53 : (a0_4 == 0 && (a0_5 == 0 && (a0_6 == 0 && (a0_7.toList == ([] : List UInt8))))) = true
          ·rw [if_pos c53] at H
           have c53b0 : (a0_4 == 0 && (a0_5 == 0 && (a0_6 == 0 && (a0_7.toList == ([] : List UInt8))))) = true := c53
           (try (have cz5_ := c53b0; simp only [List.beq_nil_eq] at cz5_))
           (try (have c53b1 : decide (a0_4 = 0 && (a0_5 == 0 && (a0_6 == 0 && (a0_7.toList == ([] : List UInt8))))) = true := by simpa using c53))
           (try (have c53b2 : (a0_4 == 0 && (a0_5 == 0 && (a0_6 == 0 && (a0_7.toList == ([] : List UInt8))))) = true := by simpa using c53))
           clear c53
           by_cases c54 : a0_8 = 0
           ·rw [if_pos c54] at H
            have c54b0 : (a0_8 == 0) = true := beq_iff_eq.mpr c54
            have c54b1 : (a0_8 != 0) = false := bne_eq_false_iff_eq.mpr c54
            clear c54
            obtain rfl := Option.some.inj H
            have hcz55_0 : wc.cell? ⟨gb183, 0, none⟩ = some (.int .i64 a0_0) := (blk_cell BK183.out 0).trans rfl
            have hcz55_1 : wc.cell? ⟨gb183, 1, none⟩ = some (.int .i64 a0_1) := (blk_cell BK183.out 1).trans rfl
            have hcz55_2 : wc.cell? ⟨gb183, 2, none⟩ = some (.bool false) := (blk_cell BK183.out 2).trans rfl
            have hcz55_3 : wc.cell? ⟨gb183, 3, none⟩ = some (.string a0_3) := (blk_cell BK183.out 3).trans rfl
            have hcz55_4 : wc.cell? ⟨gb183, 4, none⟩ = some (.int .i64 a0_4) := (blk_cell BK183.out 4).trans rfl
            have hcz55_5 : wc.cell? ⟨gb183, 5, none⟩ = some (.int .i64 a0_5) := (blk_cell BK183.out 5).trans rfl
            have hcz55_6 : wc.cell? ⟨gb183, 6, none⟩ = some (.int .i64 a0_6) := (blk_cell BK183.out 6).trans rfl
            have hcz55_7 : wc.cell? ⟨gb183, 7, none⟩ = some (.string a0_7) := (blk_cell BK183.out 7).trans rfl
            have hcz55_8 : wc.cell? ⟨gb183, 8, none⟩ = some (.int .u64 a0_8) := (blk_cell BK183.out 8).trans rfl
            have hcz55_9 : wc.cell? ⟨gb183, 9, none⟩ = some (.slice A0_9 l0_9.length c0_9) := (blk_cell BK183.out 9).trans rfl
            have hfz55_0 := blk_frozen BK183.out 0
            have hfz55_1 := blk_frozen BK183.out 1
            have hfz55_2 := blk_frozen BK183.out 2
            have hfz55_3 := blk_frozen BK183.out 3
            have hfz55_4 := blk_frozen BK183.out 4
            have hfz55_5 := blk_frozen BK183.out 5
            have hfz55_6 := blk_frozen BK183.out 6
            have hfz55_7 := blk_frozen BK183.out 7
            have hfz55_8 := blk_frozen BK183.out 8
            have hfz55_9 := blk_frozen BK183.out 9
            go_wp2
            go_ret
            exact ⟨by first | rfl | (simp [errW_none, errW_some] <;> rfl) | (simp [*, errW_none, errW_some] <;> rfl), by repeat (first | (with_reducible first | exact HB.out | apply below_alloc | apply pw_below_drewN | apply below_drew1 | refine below_set ?_ GE183.out) | exact HB.out)⟩
           ·rw [if_neg c54] at H
            have c54b0 : (a0_8 == 0) = false := beq_eq_false_iff_ne.mpr c54
            have c54b1 : (a0_8 != 0) = true := bne_iff_ne.mpr c54
            obtain rfl := Option.some.inj H
            have hcz56_0 : wc.cell? ⟨gb183, 0, none⟩ = some (.int .i64 a0_0) := (blk_cell BK183.out 0).trans rfl
            have hcz56_1 : wc.cell? ⟨gb183, 1, none⟩ = some (.int .i64 a0_1) := (blk_cell BK183.out 1).trans rfl
            have hcz56_2 : wc.cell? ⟨gb183, 2, none⟩ = some (.bool false) := (blk_cell BK183.out 2).trans rfl
            have hcz56_3 : wc.cell? ⟨gb183, 3, none⟩ = some (.string a0_3) := (blk_cell BK183.out 3).trans rfl
            have hcz56_4 : wc.cell? ⟨gb183, 4, none⟩ = some (.int .i64 a0_4) := (blk_cell BK183.out 4).trans rfl
            have hcz56_5 : wc.cell? ⟨gb183, 5, none⟩ = some (.int .i64 a0_5) := (blk_cell BK183.out 5).trans rfl
            have hcz56_6 : wc.cell? ⟨gb183, 6, none⟩ = some (.int .i64 a0_6) := (blk_cell BK183.out 6).trans rfl
            have hcz56_7 : wc.cell? ⟨gb183, 7, none⟩ = some (.string a0_7) := (blk_cell BK183.out 7).trans rfl
            have hcz56_8 : wc.cell? ⟨gb183, 8, none⟩ = some (.int .u64 a0_8) := (blk_cell BK183.out 8).trans rfl
            have hcz56_9 : wc.cell? ⟨gb183, 9, none⟩ = some (.slice A0_9 l0_9.length c0_9) := (blk_cell BK183.out 9).trans rfl
            have hfz56_0 := blk_frozen BK183.out 0
            have hfz56_1 := blk_frozen BK183.out 1
            have hfz56_2 := blk_frozen BK183.out 2
            have hfz56_3 := blk_frozen BK183.out 3
            have hfz56_4 := blk_frozen BK183.out 4
            have hfz56_5 := blk_frozen BK183.out 5
            have hfz56_6 := blk_frozen BK183.out 6
            have hfz56_7 := blk_frozen BK183.out 7
            have hfz56_8 := blk_frozen BK183.out 8
            have hfz56_9 := blk_frozen BK183.out 9
            go_wp2
            go_ret
            exact ⟨by first | rfl | (simp [errW_none, errW_some] <;> rfl) | (simp [*, errW_none, errW_some] <;> rfl), by repeat (first | (with_reducible first | exact HB.out | apply below_alloc | apply pw_below_drewN | apply below_drew1 | refine below_set ?_ GE183.out) | exact HB.out)⟩
          ·rw [if_neg c53] at H
           have c53b0 : (a0_4 == 0 && (a0_5 == 0 && (a0_6 == 0 && (a0_7.toList == ([] : List UInt8))))) = false := by simpa using c53
           (try (have cz6_ := c53b0; simp only [List.beq_nil_eq] at cz6_))
           (try (have c53b1 : decide (a0_4 = 0 && (a0_5 == 0 && (a0_6 == 0 && (a0_7.toList == ([] : List UInt8))))) = false := by simpa using c53))
           (try (have c53b2 : (a0_4 == 0 && (a0_5 == 0 && (a0_6 == 0 && (a0_7.toList == ([] : List UInt8))))) = false := by simpa using c53))
           (try (have c53b3 : ¬ (a0_4 = 0 && (a0_5 == 0 && (a0_6 == 0 && (a0_7.toList == ([] : List UInt8))))) := by simpa using c53))
           clear c53
           obtain rfl := Option.some.inj H
           have hcz57_0 : wc.cell? ⟨gb183, 0, none⟩ = some (.int .i64 a0_0) := (blk_cell BK183.out 0).trans rfl
           have hcz57_1 : wc.cell? ⟨gb183, 1, none⟩ = some (.int .i64 a0_1) := (blk_cell BK183.out 1).trans rfl
           have hcz57_2 : wc.cell? ⟨gb183, 2, none⟩ = some (.bool false) := (blk_cell BK183.out 2).trans rfl
           have hcz57_3 : wc.cell? ⟨gb183, 3, none⟩ = some (.string a0_3) := (blk_cell BK183.out 3).trans rfl
           have hcz57_4 : wc.cell? ⟨gb183, 4, none⟩ = some (.int .i64 a0_4) := (blk_cell BK183.out 4).trans rfl
           have hcz57_5 : wc.cell? ⟨gb183, 5, none⟩ = some (.int .i64 a0_5) := (blk_cell BK183.out 5).trans rfl
           have hcz57_6 : wc.cell? ⟨gb183, 6, none⟩ = some (.int .i64 a0_6) := (blk_cell BK183.out 6).trans rfl
           have hcz57_7 : wc.cell? ⟨gb183, 7, none⟩ = some (.string a0_7) := (blk_cell BK183.out 7).trans rfl
           have hcz57_8 : wc.cell? ⟨gb183, 8, none⟩ = some (.int .u64 a0_8) := (blk_cell BK183.out 8).trans rfl
           have hcz57_9 : wc.cell? ⟨gb183, 9, none⟩ = some (.slice A0_9 l0_9.length c0_9) := (blk_cell BK183.out 9).trans rfl
           have hfz57_0 := blk_frozen BK183.out 0
           have hfz57_1 := blk_frozen BK183.out 1
           have hfz57_2 := blk_frozen BK183.out 2
           have hfz57_3 := blk_frozen BK183.out 3
           have hfz57_4 := blk_frozen BK183.out 4
           have hfz57_5 := blk_frozen BK183.out 5
           have hfz57_6 := blk_frozen BK183.out 6
           have hfz57_7 := blk_frozen BK183.out 7
           have hfz57_8 := blk_frozen BK183.out 8
           have hfz57_9 := blk_frozen BK183.out 9
           go_wp2
           go_ret
           exact ⟨by first | rfl | (simp [errW_none, errW_some] <;> rfl) | (simp [*, errW_none, errW_some] <;> rfl), by repeat (first | (with_reducible first | exact HB.out | apply below_alloc | apply pw_below_drewN | apply below_drew1 | refine below_set ?_ GE183.out) | exact HB.out)⟩
         ·rw [if_neg c52] at H
          have c52b0 : (a0_3.toList == ([] : List UInt8)) = false := beq_eq_false_iff_ne.mpr c52
          have c52b1 : (a0_3.toList != ([] : List UInt8)) = true := bne_iff_ne.mpr c52
          obtain rfl := Option.some.inj H
          have hcz58_0 : wc.cell? ⟨gb183, 0, none⟩ = some (.int .i64 a0_0) := (blk_cell BK183.out 0).trans rfl
          have hcz58_1 : wc.cell? ⟨gb183, 1, none⟩ = some (.int .i64 a0_1) := (blk_cell BK183.out 1).trans rfl
          have hcz58_2 : wc.cell? ⟨gb183, 2, none⟩ = some (.bool false) := (blk_cell BK183.out 2).trans rfl
          have hcz58_3 : wc.cell? ⟨gb183, 3, none⟩ = some (.string a0_3) := (blk_cell BK183.out 3).trans rfl
          have hcz58_4 : wc.cell? ⟨gb183, 4, none⟩ = some (.int .i64 a0_4) := (blk_cell BK183.out 4).trans rfl
          have hcz58_5 : wc.cell? ⟨gb183, 5, none⟩ = some (.int .i64 a0_5) := (blk_cell BK183.out 5).trans rfl
          have hcz58_6 : wc.cell? ⟨gb183, 6, none⟩ = some (.int .i64 a0_6) := (blk_cell BK183.out 6).trans rfl
          have hcz58_7 : wc.cell? ⟨gb183, 7, none⟩ = some (.string a0_7) := (blk_cell BK183.out 7).trans rfl
          have hcz58_8 : wc.cell? ⟨gb183, 8, none⟩ = some (.int .u64 a0_8) := (blk_cell BK183.out 8).trans rfl
          have hcz58_9 : wc.cell? ⟨gb183, 9, none⟩ = some (.slice A0_9 l0_9.length c0_9) := (blk_cell BK183.out 9).trans rfl
          have hfz58_0 := blk_frozen BK183.out 0
          have hfz58_1 := blk_frozen BK183.out 1
          have hfz58_2 := blk_frozen BK183.out 2
          have hfz58_3 := blk_frozen BK183.out 3
          have hfz58_4 := blk_frozen BK183.out 4
          have hfz58_5 := blk_frozen BK183.out 5
          have hfz58_6 := blk_frozen BK183.out 6
          have hfz58_7 := blk_frozen BK183.out 7
          have hfz58_8 := blk_frozen BK183.out 8
          have hfz58_9 := blk_frozen BK183.out 9
          go_wp2
          go_ret
          exact ⟨by first | rfl | (simp [errW_none, errW_some] <;> rfl) | (simp [*, errW_none, errW_some] <;> rfl), by repeat (first | (with_reducible first | exact HB.out | apply below_alloc | apply pw_below_drewN | apply below_drew1 | refine below_set ?_ GE183.out) | exact HB.out)⟩
       ·rw [if_neg c49] at H
        have c49b0 : (a0_0 == 4) = false := beq_eq_false_iff_ne.mpr c49
        have c49b1 : (a0_0 != 4) = true := bne_iff_ne.mpr c49
        obtain rfl := Option.some.inj H
        have hcz59_0 : wc.cell? ⟨gb183, 0, none⟩ = some (.int .i64 a0_0) := (blk_cell BK183.out 0).trans rfl
        have hcz59_1 : wc.cell? ⟨gb183, 1, none⟩ = some (.int .i64 a0_1) := (blk_cell BK183.out 1).trans rfl
        have hcz59_2 : wc.cell? ⟨gb183, 2, none⟩ = some (.bool a0_2) := (blk_cell BK183.out 2).trans rfl
        have hcz59_3 : wc.cell? ⟨gb183, 3, none⟩ = some (.string a0_3) := (blk_cell BK183.out 3).trans rfl
        have hcz59_4 : wc.cell? ⟨gb183, 4, none⟩ = some (.int .i64 a0_4) := (blk_cell BK183.out 4).trans rfl
        have hcz59_5 : wc.cell? ⟨gb183, 5, none⟩ = some (.int .i64 a0_5) := (blk_cell BK183.out 5).trans rfl
        have hcz59_6 : wc.cell? ⟨gb183, 6, none⟩ = some (.int .i64 a0_6) := (blk_cell BK183.out 6).trans rfl
        have hcz59_7 : wc.cell? ⟨gb183, 7, none⟩ = some (.string a0_7) := (blk_cell BK183.out 7).trans rfl
        have hcz59_8 : wc.cell? ⟨gb183, 8, none⟩ = some (.int .u64 a0_8) := (blk_cell BK183.out 8).trans rfl
        have hcz59_9 : wc.cell? ⟨gb183, 9, none⟩ = some (.slice A0_9 l0_9.length c0_9) := (blk_cell BK183.out 9).trans rfl
        have hfz59_0 := blk_frozen BK183.out 0
        have hfz59_1 := blk_frozen BK183.out 1
        have hfz59_2 := blk_frozen BK183.out 2
        have hfz59_3 := blk_frozen BK183.out 3
        have hfz59_4 := blk_frozen BK183.out 4
        have hfz59_5 := blk_frozen BK183.out 5
        have hfz59_6 := blk_frozen BK183.out 6
        have hfz59_7 := blk_frozen BK183.out 7
        have hfz59_8 := blk_frozen BK183.out 8
        have hfz59_9 := blk_frozen BK183.out 9
        go_wp2
        go_ret
        exact ⟨by first | rfl | (simp [errW_none, errW_some] <;> rfl) | (simp [*, errW_none, errW_some] <;> rfl), by repeat (first | (with_reducible first | exact HB.out | apply below_alloc | apply pw_below_drewN | apply below_drew1 | refine below_set ?_ GE183.out) | exact HB.out)⟩

end Go.Proofs.Ytjccgdnnnlgeeaa.PA
end

section
-- Written by a program of this session (wip/tools/xprint.py), which drives the kit's print.
namespace Go.Proofs.Ytjccgdnnnlgeeaa.PA
open Go.RowKit Go.Proofs.YtjccgdnnnlgeeaaW.PrintWords Go.Proofs.YtjccgdnnnlgeeaaW.PrintLast Go.Proofs.YtjccgdnnnlgeeaaW.PrintMore
attribute [local go_sem] min2_int min_two   -- for this text's walks alone
set_option linter.unusedVariables false
set_option linter.unusedSimpArgs false

/-! ### rollcallref05_Put: function 21 -/
def rollcallref05_Put.l0 : Nat → List (S52) → ByteArray → Int → Option (ByteArray × Bool)
 | 0, _, _, _ => none
 | k + 1, x0, x4, x5 => if x5 < (x0.length : Int) then (if 0 ≤ x5 then ((rollcallref03_Put.f k ((rd_T52 x0 x5).f0)).bind fun bt209 => ((rollcallref04_Put.f k ((rd_T52 x0 x5).f1.f0) ((rd_T52 x0 x5).f1.f1) ((rd_T52 x0 x5).f1.f2) ((rd_T52 x0 x5).f1.f3)).bind fun bt212 => (if x4.size + bt209.1.size ≤ 9223372036854775807 then (if (x4 ++ bt209.1).size + bt212.1.size ≤ 9223372036854775807 then (rollcallref05_Put.l0 k x0 ((x4 ++ bt209.1) ++ bt212.1) (wrap64 (x5 + 1))) else (none)) else (none)))) else (none)) else (some (x4, true))
def rollcallref05_Put.f (k : Nat) (l0 : List (S52)) : Option (ByteArray × Bool) := (rollcallref05_May.f k l0).bind fun t206 => (if t206 = true then ((rollcallref01_Put.f k (IntKind.u64.wrap ((l0.length : Int)))).bind fun t207 => (rollcallref05_Put.l0 k l0 t207 0)) else (some ((⟨#[]⟩ : ByteArray), false)))
set_option maxHeartbeats 8000000 in
set_option maxRecDepth 100000 in
theorem rollcallref05_Put.calls (k : Nat) (A0 : Option Addr) (c0 : Nat) (l0 : List (S52)) (r1 : ByteArray) (r2 : Bool) (w : World) (hr0 : Kd.C k52 w A0 l0.length l0) (hc0 : l0.length ≤ c0) (h : rollcallref05_Put.f k l0 = some (r1, r2)) :
  Calls Try.prog 21 #[.slice A0 l0.length c0] w fun e w' => e = .returned (.tuple #[.string r1, .bool r2]) ∧ Below w.heap.size w w' := by
 have hu23 := Try.underlying23
 have HR0 := Aside0.mk hr0
 have HC0 := Aside0.mk hc0
 clear hr0 hc0
 have HB := Aside0.mk (Below.refl w.heap.size w)
 have H : ((rollcallref05_May.f k l0).bind fun t206 => (if t206 = true then ((rollcallref01_Put.f k (IntKind.u64.wrap ((l0.length : Int)))).bind fun t207 => (rollcallref05_Put.l0 k l0 t207 0)) else (some ((⟨#[]⟩ : ByteArray), false)))) = some (r1, r2) := h
 clear h
 replace H := Option.bind_eq_some_iff.mp H
 obtain ⟨t206, A20, H⟩ := H
 replace H : (if t206 = true then ((rollcallref01_Put.f k (IntKind.u64.wrap ((l0.length : Int)))).bind fun t207 => (rollcallref05_Put.l0 k l0 t207 0)) else (some ((⟨#[]⟩ : ByteArray), false))) = some (r1, r2) := H
 have A2 := Aside0.mk A20
 clear A20
 by_cases c3 : t206 = true
 ·subst c3
  have H1 : ((rollcallref01_Put.f k (IntKind.u64.wrap ((l0.length : Int)))).bind fun t207 => (rollcallref05_Put.l0 k l0 t207 0)) = some (r1, r2) := by rw [if_pos rfl] at H; exact H
  clear H
  have H := H1
  clear H1
  replace H := Option.bind_eq_some_iff.mp H
  obtain ⟨t207, A40, H⟩ := H
  replace H : (rollcallref05_Put.l0 k l0 t207 0) = some (r1, r2) := H
  have A4 := Aside0.mk A40
  clear A40
  have H' := Aside0.mk H
  clear H
  go_enter Try.func21, Try.ntmps21
  go_wp2_with (first | ((with_reducible refine gate_callee (f := 29) rfl ?_); refine goesL_ (some 11) rfl rfl Try.func29 (by kernel_rfl) rfl #[.slice A0 l0.length c0] rfl (by (try simp only [List.map_toArray, List.map_cons, List.map_nil]); first | done | rfl | (simp only [List.length_drop, List.length_take]; rfl)) ?_; (with_reducible refine (rollcallref05_May.calls k _ _ l0 true _ ?side1 ?side2 A2.out).mono ?_); (case side1 => repeat (first | exact HR0.out | (with_reducible refine Kd.C_alloc ?_ _) | (with_reducible refine Kd.C_drewN ?_ _) | (with_reducible refine Kd.C_drew ?_))); (case side2 => exact HC0.out); rintro e w5 ⟨rfl, hb⟩; refine ⟨_, rfl, ?_⟩; replace HB := Aside0.mk (below_step (hS HB.out) hb); (try clear hb); (try clear hb2); (try clear hk); (try clear hi)) | ((with_reducible refine gate_callee (f := 35) rfl ?_); refine goesL_ (some 16) rfl rfl Try.func35 (by kernel_rfl) rfl #[.int .u64 (IntKind.u64.wrap ((l0.length : Int)))] rfl (by (try simp only [List.map_toArray, List.map_cons, List.map_nil]); first | done | rfl | (simp only [List.length_drop, List.length_take]; rfl)) ?_; (with_reducible refine (rollcallref01_Put.calls k (IntKind.u64.wrap ((l0.length : Int))) t207 _ A4.out).mono ?_); rintro e w6 ⟨rfl, hb⟩; refine ⟨_, rfl, ?_⟩; replace HB := Aside0.mk (below_step (hS HB.out) hb); (try clear hb); (try clear hb2); (try clear hk); (try clear hi)))
  go_loopg [4, 5] k (fun kq v4 v5 w' => ∃ (x4_1 : ByteArray) (x5_1 : Int), v4 = .string x4_1 ∧ v5 = .int .i64 x5_1 ∧ Aside0 (rollcallref05_Put.l0 kq l0 x4_1 x5_1 = some (r1, r2)) ∧ Aside0 (kq ≤ k) ∧ Aside0 (Below w.heap.size w w'))
  case atStart => exact ⟨(t207), (0), (by first | rfl | (simp; done) | (simp [*]; done)), (by first | rfl | (simp; done) | (simp [*]; done)), H', ⟨Nat.le_refl _⟩, ⟨by repeat (first | (with_reducible first | exact HB.out | apply below_alloc | apply pw_below_drewN | apply below_drew1) | exact HB.out)⟩⟩
  case round =>
   clear H'
   try clear c2
   try clear p2
   try clear c3
   obtain ⟨x4_1, x5_1, rfl, rfl, HA, HK1, HB⟩ := hrel
   cases gk with
   | zero => exact absurd HA.out (by simp [rollcallref05_Put.l0])
   | succ k1 =>
    have H := HA.out
    clear HA
    simp only [rollcallref05_Put.l0] at H
    by_cases c7 : x5_1 < (l0.length : Int)
    ·rw [if_pos c7] at H
     have c7b0 : decide (x5_1 < (l0.length : Int)) = true := decide_eq_true c7
     clear c7
     by_cases c8 : 0 ≤ x5_1
     ·rw [if_pos c8] at H
      have c8b0 : decide (0 ≤ x5_1) = true := decide_eq_true c8
      clear c8
      replace H := Option.bind_eq_some_iff.mp H
      obtain ⟨⟨t209, t210⟩, A90, H⟩ := H
      replace H : ((rollcallref04_Put.f k1 ((rd_T52 l0 x5_1).f1.f0) ((rd_T52 l0 x5_1).f1.f1) ((rd_T52 l0 x5_1).f1.f2) ((rd_T52 l0 x5_1).f1.f3)).bind fun bt212 => (if x4_1.size + t209.size ≤ 9223372036854775807 then (if (x4_1 ++ t209).size + bt212.1.size ≤ 9223372036854775807 then (rollcallref05_Put.l0 k1 l0 ((x4_1 ++ t209) ++ bt212.1) (wrap64 (x5_1 + 1))) else (none)) else (none))) = some (r1, r2) := H
      have A9 := Aside0.mk A90
      clear A90
      replace H := Option.bind_eq_some_iff.mp H
      obtain ⟨⟨t212, t213⟩, A100, H⟩ := H
      replace H : (if x4_1.size + t209.size ≤ 9223372036854775807 then (if (x4_1 ++ t209).size + t212.size ≤ 9223372036854775807 then (rollcallref05_Put.l0 k1 l0 ((x4_1 ++ t209) ++ t212) (wrap64 (x5_1 + 1))) else (none)) else (none)) = some (r1, r2) := H
      have A10 := Aside0.mk A100
      clear A100
      by_cases c11 : x4_1.size + t209.size ≤ 9223372036854775807
      ·rw [if_pos c11] at H
       have c11b0 := eq_true c11
       have c11b1 : decide (x4_1.size + t209.size ≤ 9223372036854775807) = true := decide_eq_true c11
       try have c11b2 : (9223372036854775807 < x4_1.size + t209.size) = False := eq_false (Nat.not_lt.2 c11)
       (try (have c11b3 := c11b0; simp only [ByteArray.size_append] at c11b3))
       (try (have c11b4 := c11b2; simp only [ByteArray.size_append] at c11b4))
       clear c11
       by_cases c12 : (x4_1 ++ t209).size + t212.size ≤ 9223372036854775807
       ·rw [if_pos c12] at H
        have c12b0 := eq_true c12
        have c12b1 : decide ((x4_1 ++ t209).size + t212.size ≤ 9223372036854775807) = true := decide_eq_true c12
        try have c12b2 : (9223372036854775807 < (x4_1 ++ t209).size + t212.size) = False := eq_false (Nat.not_lt.2 c12)
        (try (have c12b3 := c12b0; simp only [ByteArray.size_append] at c12b3))
        (try (have c12b4 := c12b2; simp only [ByteArray.size_append] at c12b4))
        clear c12
        have H' := Aside0.mk H
        clear H
        have p208 : 0 ≤ (x5_1 : Int) := of_decide_eq_true (by first | (with_reducible assumption) | assumption)
        have q208 : x5_1 < (l0.length : Int) := of_decide_eq_true (by first | (with_reducible assumption) | assumption)
        obtain ⟨ad208, e208, hx208_0, hx208_1, hx208_2, hx208_3, hx208_4⟩ := at_T52 HR0.out x5_1 p208 q208
        cases e208
        replace hx208_0 := (HB.out.cell (World.block_lt_of_cell? w _ hx208_0)).trans hx208_0
        replace hx208_1 := (HB.out.cell (World.block_lt_of_cell? w _ hx208_1)).trans hx208_1
        replace hx208_2 := (HB.out.cell (World.block_lt_of_cell? w _ hx208_2)).trans hx208_2
        replace hx208_3 := (HB.out.cell (World.block_lt_of_cell? w _ hx208_3)).trans hx208_3
        replace hx208_4 := (HB.out.cell (World.block_lt_of_cell? w _ hx208_4)).trans hx208_4
        replace p208 := eq_true p208
        replace q208 := eq_true q208
        go_wp2_with (first | ((with_reducible refine gate_callee (f := 36) rfl ?_); refine goesL_ (some 29) rfl rfl Try.func36 (by kernel_rfl) rfl #[.string ((rd_T52 l0 x5_1).f0)] rfl (by (try simp only [List.map_toArray, List.map_cons, List.map_nil]); first | done | rfl | (simp only [List.length_drop, List.length_take]; rfl)) ?_; (with_reducible refine (rollcallref03_Put.calls k1 ((rd_T52 l0 x5_1).f0) t209 t210 _ A9.out).mono ?_); rintro e w13 ⟨rfl, hb⟩; refine ⟨_, rfl, ?_⟩; replace HB := Aside0.mk (below_step (hS HB.out) hb); (try clear hb); (try clear hb2); (try clear hk); (try clear hi); have p211 : 0 ≤ (x5_1 : Int) := of_decide_eq_true (by first | (with_reducible assumption) | assumption); have q211 : x5_1 < (l0.length : Int) := of_decide_eq_true (by first | (with_reducible assumption) | assumption); obtain ⟨ad211, e211, hx211_0, hx211_1, hx211_2, hx211_3, hx211_4⟩ := at_T52 HR0.out x5_1 p211 q211; obtain rfl : ad208 = ad211 := (by injection e211); replace hx211_0 := (HB.out.cell (World.block_lt_of_cell? w _ hx211_0)).trans hx211_0; replace hx211_1 := (HB.out.cell (World.block_lt_of_cell? w _ hx211_1)).trans hx211_1; replace hx211_2 := (HB.out.cell (World.block_lt_of_cell? w _ hx211_2)).trans hx211_2; replace hx211_3 := (HB.out.cell (World.block_lt_of_cell? w _ hx211_3)).trans hx211_3; replace hx211_4 := (HB.out.cell (World.block_lt_of_cell? w _ hx211_4)).trans hx211_4; replace p211 := eq_true p211; replace q211 := eq_true q211) | ((with_reducible refine gate_callee (f := 37) rfl ?_); refine goesL_ (some 38) rfl rfl Try.func37 (by kernel_rfl) rfl #[.agg #[.int .i64 ((rd_T52 l0 x5_1).f1.f0), .int .i64 ((rd_T52 l0 x5_1).f1.f1), .int .i64 ((rd_T52 l0 x5_1).f1.f2), .string ((rd_T52 l0 x5_1).f1.f3)]] rfl (by (try simp only [List.map_toArray, List.map_cons, List.map_nil]); first | done | rfl | (simp only [List.length_drop, List.length_take]; rfl)) ?_; (with_reducible refine (rollcallref04_Put.calls k1 ((rd_T52 l0 x5_1).f1.f0) ((rd_T52 l0 x5_1).f1.f1) ((rd_T52 l0 x5_1).f1.f2) ((rd_T52 l0 x5_1).f1.f3) t212 t213 _ A10.out).mono ?_); rintro e w14 ⟨rfl, hb⟩; refine ⟨_, rfl, ?_⟩; replace HB := Aside0.mk (below_step (hS HB.out) hb); (try clear hb); (try clear hb2); (try clear hk); (try clear hi)))
        go_roundg k1
        case measure => have := HK1.out; omega
        case rel => exact ⟨((x4_1 ++ t209) ++ t212), (wrap64 (x5_1 + 1)), (by first | rfl | (simp; done) | (simp [*]; done)), (by first | rfl | (simp; done) | (simp [*]; done)), H', ⟨by have := HK1.out; omega⟩, ⟨by repeat (first | (with_reducible first | exact HB.out | apply below_alloc | apply pw_below_drewN | apply below_drew1) | exact HB.out)⟩⟩
       ·rw [if_neg c12] at H
        exact absurd H (by simp)
      ·rw [if_neg c11] at H
       exact absurd H (by simp)
     ·rw [if_neg c8] at H
      exact absurd H (by simp)
    ·rw [if_neg c7] at H
     have c7b0 : decide (x5_1 < (l0.length : Int)) = false := decide_eq_false c7
     clear c7
     simp only [Option.some.injEq, Prod.mk.injEq] at H
     obtain ⟨rfl, rfl⟩ := H
     go_wp2
     go_ret2
     exact ⟨by first | rfl | (simp [errW_none, errW_some] <;> rfl) | (simp [*, errW_none, errW_some] <;> rfl), by repeat (first | (with_reducible first | exact HB.out | apply below_alloc | apply pw_below_drewN | apply below_drew1) | exact HB.out)⟩
 ·replace c3 := Bool.eq_false_iff.mpr c3
  subst c3
  have H1 : (some ((⟨#[]⟩ : ByteArray), false)) = some (r1, r2) := by rw [if_neg (show ¬ (false = true) by decide)] at H; exact H
  clear H
  have H := H1
  clear H1
  simp only [Option.some.injEq, Prod.mk.injEq] at H
  obtain ⟨rfl, rfl⟩ := H
  go_enter Try.func21, Try.ntmps21
  go_wp2_with (first | ((with_reducible refine gate_callee (f := 29) rfl ?_); refine goesL_ (some 11) rfl rfl Try.func29 (by kernel_rfl) rfl #[.slice A0 l0.length c0] rfl (by (try simp only [List.map_toArray, List.map_cons, List.map_nil]); first | done | rfl | (simp only [List.length_drop, List.length_take]; rfl)) ?_; (with_reducible refine (rollcallref05_May.calls k _ _ l0 false _ ?side1 ?side2 A2.out).mono ?_); (case side1 => repeat (first | exact HR0.out | (with_reducible refine Kd.C_alloc ?_ _) | (with_reducible refine Kd.C_drewN ?_ _) | (with_reducible refine Kd.C_drew ?_))); (case side2 => exact HC0.out); rintro e w15 ⟨rfl, hb⟩; refine ⟨_, rfl, ?_⟩; replace HB := Aside0.mk (below_step (hS HB.out) hb); (try clear hb); (try clear hb2); (try clear hk); (try clear hi)))
  go_ret2
  exact ⟨by first | rfl | (simp [errW_none, errW_some] <;> rfl) | (simp [*, errW_none, errW_some] <;> rfl), by repeat (first | (with_reducible first | exact HB.out | apply below_alloc | apply pw_below_drewN | apply below_drew1) | exact HB.out)⟩

end Go.Proofs.Ytjccgdnnnlgeeaa.PA
end

section
-- Written by a program of this session (wip/tools/xprint.py), which drives the kit's print.
namespace Go.Proofs.Ytjccgdnnnlgeeaa.PA
open Go.RowKit Go.Proofs.YtjccgdnnnlgeeaaW.PrintWords Go.Proofs.YtjccgdnnnlgeeaaW.PrintLast Go.Proofs.YtjccgdnnnlgeeaaW.PrintMore
attribute [local go_sem] min2_int min_two   -- for this text's walks alone
set_option linter.unusedVariables false
set_option linter.unusedSimpArgs false

/-! ### rollcallref06_plain: function 26 -/
def rollcallref06_plain.l0 : Nat → ByteArray → Int → Int → Int → Bool → ByteArray → Int → Int → Int → ByteArray → Int → List (S52) → Option (ByteArray)
 | 0, _, _, _, _, _, _, _, _, _, _, _, _ => none
 | k + 1, x3, x8, x215000, x215001, x215002, x215003, x215004, x215005, x215006, x215007, x215008, x215009 => if x8 ≥ 0 then (if 0 ≤ (IntKind.u64.wrap (x8)) then ((some (([(shr .u64 x215008 (IntKind.u64.wrap (x8))) % 256] : List Int) : List Int)).bind fun y223 => (if x3.size + (strOfNums y223).size ≤ 9223372036854775807 then (rollcallref06_plain.l0 k (x3 ++ (strOfNums y223)) (wrap64 (x8 - 8)) x215000 x215001 x215002 x215003 x215004 x215005 x215006 x215007 x215008 x215009) else (none))) else (none)) else (some x3)
def rollcallref06_plain.f (k : Nat) (a0_0 : Int) (a0_1 : Int) (a0_2 : Bool) (a0_3 : ByteArray) (a0_4 : Int) (a0_5 : Int) (a0_6 : Int) (a0_7 : ByteArray) (a0_8 : Int) (l0_9 : List (S52)) : Option (ByteArray) := (some (([(a0_0) % 256] : List Int) : List Int)).bind fun y215 => ((rollcallref01_Put.f k (IntKind.u64.wrap (a0_1))).bind fun t218 => (if (strOfNums y215).size + t218.size ≤ 9223372036854775807 then (if a0_0 = 1 then ((rollcallref03_Put.f k a0_3).bind fun bt219 => (if a0_2 = true then ((rollcallref04_Put.f k a0_4 a0_5 a0_6 a0_7).bind fun bt221 => (if ((strOfNums y215) ++ t218).size + 1 ≤ 9223372036854775807 then (if (((strOfNums y215) ++ t218) ++ (⟨#[1]⟩ : ByteArray)).size + bt219.1.size ≤ 9223372036854775807 then (if ((((strOfNums y215) ++ t218) ++ (⟨#[1]⟩ : ByteArray)) ++ bt219.1).size + bt221.1.size ≤ 9223372036854775807 then (some (((((strOfNums y215) ++ t218) ++ (⟨#[1]⟩ : ByteArray)) ++ bt219.1) ++ bt221.1)) else (none)) else (none)) else (none))) else (if ((strOfNums y215) ++ t218).size + 1 ≤ 9223372036854775807 then (if (((strOfNums y215) ++ t218) ++ (⟨#[0]⟩ : ByteArray)).size + bt219.1.size ≤ 9223372036854775807 then (some ((((strOfNums y215) ++ t218) ++ (⟨#[0]⟩ : ByteArray)) ++ bt219.1)) else (none)) else (none)))) else (if a0_0 = 2 then (rollcallref06_plain.l0 k ((strOfNums y215) ++ t218) 56 a0_0 a0_1 a0_2 a0_3 a0_4 a0_5 a0_6 a0_7 a0_8 l0_9) else (if a0_0 = 3 then ((rollcallref05_Put.f k l0_9).bind fun bt226 => (if ((strOfNums y215) ++ t218).size + bt226.1.size ≤ 9223372036854775807 then (some (((strOfNums y215) ++ t218) ++ bt226.1)) else (none))) else (some ((strOfNums y215) ++ t218))))) else (none)))
def rollcallref06_plain.T1 : Bool × List (List Nat × List Nat) := (true, [([], []), ([0], [0]), ([1], [1]), ([2], [2]), ([3], [3]), ([], []), ([5], [5]), ([6], [6]), ([7], [7]), ([4, 8], [4, 8]), ([9, 8, 0, 1, 2, 3, 4, 5, 6, 7, 8, 9], [9])])
def rollcallref06_plain.B1 : List Nat := [0, 1, 3, 7, 15, 0, 32, 96, 224, 511, 1023]
theorem rollcallref06_plain.tab1 : rtab .any (opsOf Try.f26 1) = rollcallref06_plain.T1 := by kernel_rfl
theorem rollcallref06_plain.bits1 : waitsOk rollcallref06_plain.T1.2 rollcallref06_plain.B1 = true := by kernel_rfl
set_option maxHeartbeats 8000000 in
set_option maxRecDepth 100000 in
theorem rollcallref06_plain.calls (k : Nat) (a0_0 : Int) (a0_1 : Int) (a0_2 : Bool) (a0_3 : ByteArray) (a0_4 : Int) (a0_5 : Int) (a0_6 : Int) (a0_7 : ByteArray) (a0_8 : Int) (A0_9 : Option Addr) (c0_9 : Nat) (l0_9 : List (S52)) (r : ByteArray) (w : World) (hr0_9 : Kd.C k52 w A0_9 l0_9.length l0_9) (hc0_9 : l0_9.length ≤ c0_9) (h : rollcallref06_plain.f k a0_0 a0_1 a0_2 a0_3 a0_4 a0_5 a0_6 a0_7 a0_8 l0_9 = some r) :
  Calls Try.prog 26 #[.agg #[.int .i64 a0_0, .int .i64 a0_1, .bool a0_2, .string a0_3, .int .i64 a0_4, .int .i64 a0_5, .int .i64 a0_6, .string a0_7, .int .u64 a0_8, .slice A0_9 l0_9.length c0_9]] w fun e w' => e = .returned (.string r) ∧ Below w.heap.size w w' := by
 have hu27 := Try.underlying27
 have hu23 := Try.underlying23
 have HR0_9 := Aside0.mk hr0_9
 have HC0_9 := Aside0.mk hc0_9
 clear hr0_9 hc0_9
 have HB := Aside0.mk (Below.refl w.heap.size w)
 have H : ((some (([(a0_0) % 256] : List Int) : List Int)).bind fun y215 => ((rollcallref01_Put.f k (IntKind.u64.wrap (a0_1))).bind fun t218 => (if (strOfNums y215).size + t218.size ≤ 9223372036854775807 then (if a0_0 = 1 then ((rollcallref03_Put.f k a0_3).bind fun bt219 => (if a0_2 = true then ((rollcallref04_Put.f k a0_4 a0_5 a0_6 a0_7).bind fun bt221 => (if ((strOfNums y215) ++ t218).size + 1 ≤ 9223372036854775807 then (if (((strOfNums y215) ++ t218) ++ (⟨#[1]⟩ : ByteArray)).size + bt219.1.size ≤ 9223372036854775807 then (if ((((strOfNums y215) ++ t218) ++ (⟨#[1]⟩ : ByteArray)) ++ bt219.1).size + bt221.1.size ≤ 9223372036854775807 then (some (((((strOfNums y215) ++ t218) ++ (⟨#[1]⟩ : ByteArray)) ++ bt219.1) ++ bt221.1)) else (none)) else (none)) else (none))) else (if ((strOfNums y215) ++ t218).size + 1 ≤ 9223372036854775807 then (if (((strOfNums y215) ++ t218) ++ (⟨#[0]⟩ : ByteArray)).size + bt219.1.size ≤ 9223372036854775807 then (some ((((strOfNums y215) ++ t218) ++ (⟨#[0]⟩ : ByteArray)) ++ bt219.1)) else (none)) else (none)))) else (if a0_0 = 2 then (rollcallref06_plain.l0 k ((strOfNums y215) ++ t218) 56 a0_0 a0_1 a0_2 a0_3 a0_4 a0_5 a0_6 a0_7 a0_8 l0_9) else (if a0_0 = 3 then ((rollcallref05_Put.f k l0_9).bind fun bt226 => (if ((strOfNums y215) ++ t218).size + bt226.1.size ≤ 9223372036854775807 then (some (((strOfNums y215) ++ t218) ++ bt226.1)) else (none))) else (some ((strOfNums y215) ++ t218))))) else (none)))) = some r := h
 clear h
 obtain ⟨y215, hy215⟩ : ∃ y_ : List Int, y_ = (([(a0_0) % 256] : List Int)) := ⟨_, rfl⟩
 replace H : ((rollcallref01_Put.f k (IntKind.u64.wrap (a0_1))).bind fun t218 => (if (strOfNums y215).size + t218.size ≤ 9223372036854775807 then (if a0_0 = 1 then ((rollcallref03_Put.f k a0_3).bind fun bt219 => (if a0_2 = true then ((rollcallref04_Put.f k a0_4 a0_5 a0_6 a0_7).bind fun bt221 => (if ((strOfNums y215) ++ t218).size + 1 ≤ 9223372036854775807 then (if (((strOfNums y215) ++ t218) ++ (⟨#[1]⟩ : ByteArray)).size + bt219.1.size ≤ 9223372036854775807 then (if ((((strOfNums y215) ++ t218) ++ (⟨#[1]⟩ : ByteArray)) ++ bt219.1).size + bt221.1.size ≤ 9223372036854775807 then (some (((((strOfNums y215) ++ t218) ++ (⟨#[1]⟩ : ByteArray)) ++ bt219.1) ++ bt221.1)) else (none)) else (none)) else (none))) else (if ((strOfNums y215) ++ t218).size + 1 ≤ 9223372036854775807 then (if (((strOfNums y215) ++ t218) ++ (⟨#[0]⟩ : ByteArray)).size + bt219.1.size ≤ 9223372036854775807 then (some ((((strOfNums y215) ++ t218) ++ (⟨#[0]⟩ : ByteArray)) ++ bt219.1)) else (none)) else (none)))) else (if a0_0 = 2 then (rollcallref06_plain.l0 k ((strOfNums y215) ++ t218) 56 a0_0 a0_1 a0_2 a0_3 a0_4 a0_5 a0_6 a0_7 a0_8 l0_9) else (if a0_0 = 3 then ((rollcallref05_Put.f k l0_9).bind fun bt226 => (if ((strOfNums y215) ++ t218).size + bt226.1.size ≤ 9223372036854775807 then (some (((strOfNums y215) ++ t218) ++ bt226.1)) else (none))) else (some ((strOfNums y215) ++ t218))))) else (none))) = some r := by first | (rw [hy215]; with_reducible exact H) | (have H2_ := (Option.bind_some _ _).symm.trans H; rw [hy215]; with_reducible exact H2_) | (have H2_ := (Option.bind_some _ _).symm.trans H; with_reducible exact H2_) | with_reducible exact H | (rw [hy215]; exact H) | exact H
 have Ny215 := Aside0.mk hy215
 clear hy215
 replace H := Option.bind_eq_some_iff.mp H
 obtain ⟨t218, A20, H⟩ := H
 replace H : (if (strOfNums y215).size + t218.size ≤ 9223372036854775807 then (if a0_0 = 1 then ((rollcallref03_Put.f k a0_3).bind fun bt219 => (if a0_2 = true then ((rollcallref04_Put.f k a0_4 a0_5 a0_6 a0_7).bind fun bt221 => (if ((strOfNums y215) ++ t218).size + 1 ≤ 9223372036854775807 then (if (((strOfNums y215) ++ t218) ++ (⟨#[1]⟩ : ByteArray)).size + bt219.1.size ≤ 9223372036854775807 then (if ((((strOfNums y215) ++ t218) ++ (⟨#[1]⟩ : ByteArray)) ++ bt219.1).size + bt221.1.size ≤ 9223372036854775807 then (some (((((strOfNums y215) ++ t218) ++ (⟨#[1]⟩ : ByteArray)) ++ bt219.1) ++ bt221.1)) else (none)) else (none)) else (none))) else (if ((strOfNums y215) ++ t218).size + 1 ≤ 9223372036854775807 then (if (((strOfNums y215) ++ t218) ++ (⟨#[0]⟩ : ByteArray)).size + bt219.1.size ≤ 9223372036854775807 then (some ((((strOfNums y215) ++ t218) ++ (⟨#[0]⟩ : ByteArray)) ++ bt219.1)) else (none)) else (none)))) else (if a0_0 = 2 then (rollcallref06_plain.l0 k ((strOfNums y215) ++ t218) 56 a0_0 a0_1 a0_2 a0_3 a0_4 a0_5 a0_6 a0_7 a0_8 l0_9) else (if a0_0 = 3 then ((rollcallref05_Put.f k l0_9).bind fun bt226 => (if ((strOfNums y215) ++ t218).size + bt226.1.size ≤ 9223372036854775807 then (some (((strOfNums y215) ++ t218) ++ bt226.1)) else (none))) else (some ((strOfNums y215) ++ t218))))) else (none)) = some r := H
 have A2 := Aside0.mk A20
 clear A20
 by_cases c3 : (strOfNums y215).size + t218.size ≤ 9223372036854775807
 ·rw [if_pos c3] at H
  have c3b0 := eq_true c3
  have c3b1 : decide ((strOfNums y215).size + t218.size ≤ 9223372036854775807) = true := decide_eq_true c3
  try have c3b2 : (9223372036854775807 < (strOfNums y215).size + t218.size) = False := eq_false (Nat.not_lt.2 c3)
  (try (have c3b3 := c3b0; simp only [ByteArray.size_append] at c3b3))
  (try (have c3b4 := c3b2; simp only [ByteArray.size_append] at c3b4))
  (try (have c3b5 := c3b3; simp only [show (⟨#[1]⟩ : ByteArray).size = 1 from rfl, show (⟨#[0]⟩ : ByteArray).size = 1 from rfl] at c3b5))
  (try (have c3b6 := c3b4; simp only [show (⟨#[1]⟩ : ByteArray).size = 1 from rfl, show (⟨#[0]⟩ : ByteArray).size = 1 from rfl] at c3b6))
  clear c3
  by_cases c4 : a0_0 = 1
  ·rw [if_pos c4] at H
   have c4b0 : (a0_0 == 1) = true := beq_iff_eq.mpr c4
   have c4b1 : (a0_0 != 1) = false := bne_eq_false_iff_eq.mpr c4
   clear c4
   replace H := Option.bind_eq_some_iff.mp H
   obtain ⟨⟨t219, t220⟩, A50, H⟩ := H
   replace H : (if a0_2 = true then ((rollcallref04_Put.f k a0_4 a0_5 a0_6 a0_7).bind fun bt221 => (if ((strOfNums y215) ++ t218).size + 1 ≤ 9223372036854775807 then (if (((strOfNums y215) ++ t218) ++ (⟨#[1]⟩ : ByteArray)).size + t219.size ≤ 9223372036854775807 then (if ((((strOfNums y215) ++ t218) ++ (⟨#[1]⟩ : ByteArray)) ++ t219).size + bt221.1.size ≤ 9223372036854775807 then (some (((((strOfNums y215) ++ t218) ++ (⟨#[1]⟩ : ByteArray)) ++ t219) ++ bt221.1)) else (none)) else (none)) else (none))) else (if ((strOfNums y215) ++ t218).size + 1 ≤ 9223372036854775807 then (if (((strOfNums y215) ++ t218) ++ (⟨#[0]⟩ : ByteArray)).size + t219.size ≤ 9223372036854775807 then (some ((((strOfNums y215) ++ t218) ++ (⟨#[0]⟩ : ByteArray)) ++ t219)) else (none)) else (none))) = some r := H
   have A5 := Aside0.mk A50
   clear A50
   by_cases c6 : a0_2 = true
   ·subst c6
    have H1 : ((rollcallref04_Put.f k a0_4 a0_5 a0_6 a0_7).bind fun bt221 => (if ((strOfNums y215) ++ t218).size + 1 ≤ 9223372036854775807 then (if (((strOfNums y215) ++ t218) ++ (⟨#[1]⟩ : ByteArray)).size + t219.size ≤ 9223372036854775807 then (if ((((strOfNums y215) ++ t218) ++ (⟨#[1]⟩ : ByteArray)) ++ t219).size + bt221.1.size ≤ 9223372036854775807 then (some (((((strOfNums y215) ++ t218) ++ (⟨#[1]⟩ : ByteArray)) ++ t219) ++ bt221.1)) else (none)) else (none)) else (none))) = some r := by rw [if_pos rfl] at H; exact H
    clear H
    have H := H1
    clear H1
    replace H := Option.bind_eq_some_iff.mp H
    obtain ⟨⟨t221, t222⟩, A70, H⟩ := H
    replace H : (if ((strOfNums y215) ++ t218).size + 1 ≤ 9223372036854775807 then (if (((strOfNums y215) ++ t218) ++ (⟨#[1]⟩ : ByteArray)).size + t219.size ≤ 9223372036854775807 then (if ((((strOfNums y215) ++ t218) ++ (⟨#[1]⟩ : ByteArray)) ++ t219).size + t221.size ≤ 9223372036854775807 then (some (((((strOfNums y215) ++ t218) ++ (⟨#[1]⟩ : ByteArray)) ++ t219) ++ t221)) else (none)) else (none)) else (none)) = some r := H
    have A7 := Aside0.mk A70
    clear A70
    by_cases c8 : ((strOfNums y215) ++ t218).size + 1 ≤ 9223372036854775807
    ·rw [if_pos c8] at H
     have c8b0 := eq_true c8
     have c8b1 : decide (((strOfNums y215) ++ t218).size + 1 ≤ 9223372036854775807) = true := decide_eq_true c8
     try have c8b2 : (9223372036854775807 < ((strOfNums y215) ++ t218).size + 1) = False := eq_false (Nat.not_lt.2 c8)
     (try (have c8b3 := c8b0; simp only [ByteArray.size_append] at c8b3))
     (try (have c8b4 := c8b2; simp only [ByteArray.size_append] at c8b4))
     (try (have c8b5 := c8b3; simp only [show (⟨#[1]⟩ : ByteArray).size = 1 from rfl, show (⟨#[0]⟩ : ByteArray).size = 1 from rfl] at c8b5))
     (try (have c8b6 := c8b4; simp only [show (⟨#[1]⟩ : ByteArray).size = 1 from rfl, show (⟨#[0]⟩ : ByteArray).size = 1 from rfl] at c8b6))
     clear c8
     by_cases c9 : (((strOfNums y215) ++ t218) ++ (⟨#[1]⟩ : ByteArray)).size + t219.size ≤ 9223372036854775807
     ·rw [if_pos c9] at H
      have c9b0 := eq_true c9
      have c9b1 : decide ((((strOfNums y215) ++ t218) ++ (⟨#[1]⟩ : ByteArray)).size + t219.size ≤ 9223372036854775807) = true := decide_eq_true c9
      try have c9b2 : (9223372036854775807 < (((strOfNums y215) ++ t218) ++ (⟨#[1]⟩ : ByteArray)).size + t219.size) = False := eq_false (Nat.not_lt.2 c9)
      (try (have c9b3 := c9b0; simp only [ByteArray.size_append] at c9b3))
      (try (have c9b4 := c9b2; simp only [ByteArray.size_append] at c9b4))
      (try (have c9b5 := c9b3; simp only [show (⟨#[1]⟩ : ByteArray).size = 1 from rfl, show (⟨#[0]⟩ : ByteArray).size = 1 from rfl] at c9b5))
      (try (have c9b6 := c9b4; simp only [show (⟨#[1]⟩ : ByteArray).size = 1 from rfl, show (⟨#[0]⟩ : ByteArray).size = 1 from rfl] at c9b6))
      clear c9
      by_cases c10 : ((((strOfNums y215) ++ t218) ++ (⟨#[1]⟩ : ByteArray)) ++ t219).size + t221.size ≤ 9223372036854775807
      ·rw [if_pos c10] at H
       have c10b0 := eq_true c10
       have c10b1 : decide (((((strOfNums y215) ++ t218) ++ (⟨#[1]⟩ : ByteArray)) ++ t219).size + t221.size ≤ 9223372036854775807) = true := decide_eq_true c10
       try have c10b2 : (9223372036854775807 < ((((strOfNums y215) ++ t218) ++ (⟨#[1]⟩ : ByteArray)) ++ t219).size + t221.size) = False := eq_false (Nat.not_lt.2 c10)
       (try (have c10b3 := c10b0; simp only [ByteArray.size_append] at c10b3))
       (try (have c10b4 := c10b2; simp only [ByteArray.size_append] at c10b4))
       (try (have c10b5 := c10b3; simp only [show (⟨#[1]⟩ : ByteArray).size = 1 from rfl, show (⟨#[0]⟩ : ByteArray).size = 1 from rfl] at c10b5))
       (try (have c10b6 := c10b4; simp only [show (⟨#[1]⟩ : ByteArray).size = 1 from rfl, show (⟨#[0]⟩ : ByteArray).size = 1 from rfl] at c10b6))
       clear c10
       obtain rfl := Option.some.inj H
       go_enter Try.func26, Try.ntmps26
       try go_wp2_with (first | ((with_reducible refine gate_dst (N := 1) rfl ?_); refine box_event ?hg (N := 1) ?hd (cs := #[.int .i64 a0_0, .int .i64 a0_1, .bool true, .string a0_3, .int .i64 a0_4, .int .i64 a0_5, .int .i64 a0_6, .string a0_7, .int .u64 a0_8, .slice A0_9 l0_9.length c0_9]) (t := 27) ?hr ?_; (case hd => rfl); (case hg => rfl); (case hr => first | (go_simp; done) | (go_simp; rfl)); intro gb214 hg w11 hbox hb; have BK214 := Aside0.mk (hbox); have GW214 := Aside0.mk ((by rw [hg]; exact (below_size (hS HB.out)) : w.heap.size ≤ gb214)); have GE214 := Aside0.mk ((by rw [hg]; exact (below_size (hS HB.out)) : w.heap.size ≤ gb214)); replace HB := Aside0.mk (below_step (hS HB.out) hb); clear hb hbox hg))
       replace BK214 := Aside0.mk (blk_drew BK214.out)
       replace HB := Aside0.mk (below_drew1 HB.out)
       refine start_ (n := 11) (S := fun w' => w'.cell? ⟨gb214, 0, none⟩ = some (.int .i64 a0_0) ∧ w'.cell? ⟨gb214, 1, none⟩ = some (.int .i64 a0_1) ∧ w'.cell? ⟨gb214, 2, none⟩ = some (.bool true) ∧ w'.cell? ⟨gb214, 3, none⟩ = some (.string a0_3) ∧ w'.cell? ⟨gb214, 4, none⟩ = some (.int .i64 a0_4) ∧ w'.cell? ⟨gb214, 5, none⟩ = some (.int .i64 a0_5) ∧ w'.cell? ⟨gb214, 6, none⟩ = some (.int .i64 a0_6) ∧ w'.cell? ⟨gb214, 7, none⟩ = some (.string a0_7) ∧ w'.cell? ⟨gb214, 8, none⟩ = some (.int .u64 a0_8) ∧ w'.cell? ⟨gb214, 9, none⟩ = some (.slice A0_9 l0_9.length c0_9)) (ds := []) #[false, false, false, false, false, false, false, false, false, false, false] (by kernel_rfl) rfl rfl ⟨(blk_cell BK214.out 0).trans rfl, (blk_cell BK214.out 1).trans rfl, (blk_cell BK214.out 2).trans rfl, (blk_cell BK214.out 3).trans rfl, (blk_cell BK214.out 4).trans rfl, (blk_cell BK214.out 5).trans rfl, (blk_cell BK214.out 6).trans rfl, (blk_cell BK214.out 7).trans rfl, (blk_cell BK214.out 8).trans rfl, (blk_cell BK214.out 9).trans rfl⟩ (fun hHeld => ?_); refine with_tabW rollcallref06_plain.tab1 rollcallref06_plain.bits1 (fun HT_ HW_ => ?_)
       generalize w11.drew = w12 at BK214 HB hHeld ⊢
       refine pure_ (i := 0) (N := some 11) (v := ?_) (a' := ?_) #[true, false, false, false, false, false, false, false, false, false, false] rfl rfl (any_of HT_.out (by kernel_rfl)) (fun _ _ _ h => h) (Or.inl ⟨by rfl, ?_⟩) ?_ ?_
       rotate_left
       ·intro w'
        go_simp
        with_reducible rfl
       rotate_left
       ·simp only [Act.put, List.setIfInBounds_toArray, List.set_cons_zero, List.set_cons_succ, i64_w, i32_w]
        rfl
       refine pure_ (i := 5) (N := some 16) (v := ?_) (a' := ?_) #[true, false, false, false, false, true, false, false, false, false, false] rfl rfl (any_of HT_.out (by kernel_rfl)) (fun _ _ _ h => h) (Or.inl ⟨by rfl, ?_⟩) ?_ ?_
       rotate_left
       ·intro w'
        go_simp
        with_reducible rfl
       rotate_left
       ·simp only [Act.put, List.setIfInBounds_toArray, List.set_cons_zero, List.set_cons_succ, i64_w, i32_w]
        rfl
       refine take_ (i := 1) (N := some 12) (v := ?_) (a' := ?_) #[true, true, false, false, false, true, false, false, false, false, false] rfl rfl (take_ofW HT_.out HW_.out (by kernel_rfl)) (fun _ _ _ h => h) (Or.inl ⟨by rfl, ?_⟩) hHeld ?_ ?_
       rotate_left
       ·rintro w' ⟨s0, s1, s2, s3, s4, s5, s6, s7, s8, s9⟩
        go_simp
        with_reducible rfl
       rotate_left
       ·simp only [Act.put, List.setIfInBounds_toArray, List.set_cons_zero, List.set_cons_succ, i64_w, i32_w]
        rfl
       refine pure_ (i := 2) (N := some 13) (v := ?_) (a' := ?_) #[true, true, true, false, false, true, false, false, false, false, false] rfl rfl (any_of HT_.out (by kernel_rfl)) (fun _ _ _ h => h) (Or.inl ⟨by rfl, ?_⟩) ?_ ?_
       rotate_left
       ·intro w'
        go_simp
        with_reducible rfl
       rotate_left
       ·simp only [Act.put, List.setIfInBounds_toArray, List.set_cons_zero, List.set_cons_succ, i64_w, i32_w]
        rfl
       refine take_ (i := 6) (N := some 17) (v := ?_) (a' := ?_) #[true, true, true, false, false, true, true, false, false, false, false] rfl rfl (take_ofW HT_.out HW_.out (by kernel_rfl)) (fun _ _ _ h => h) (Or.inl ⟨by rfl, ?_⟩) hHeld ?_ ?_
       rotate_left
       ·rintro w' ⟨s0, s1, s2, s3, s4, s5, s6, s7, s8, s9⟩
        go_simp
        with_reducible rfl
       rotate_left
       ·simp only [Act.put, List.setIfInBounds_toArray, List.set_cons_zero, List.set_cons_succ, i64_w, i32_w]
        rfl
       refine pure_ (i := 7) (N := some 18) (v := ?_) (a' := ?_) #[true, true, true, false, false, true, true, true, false, false, false] rfl rfl (any_of HT_.out (by kernel_rfl)) (fun _ _ _ h => h) (Or.inl ⟨by rfl, ?_⟩) ?_ ?_
       rotate_left
       ·intro w'
        go_simp
        with_reducible rfl
       rotate_left
       ·simp only [Act.put, List.setIfInBounds_toArray, List.set_cons_zero, List.set_cons_succ, i64_w, i32_w]
        rfl
       refine join_ (σ := Value) 2 #[true, true, true, true, true, true, true, true, true, false, false] (fun s_ => [(14, s_), (15, .string (strOfNums y215)), (19, .string t218)]) (fun s_ w' => (w'.cell? ⟨gb214, 0, none⟩ = some (.int .i64 a0_0) ∧ w'.cell? ⟨gb214, 1, none⟩ = some (.int .i64 a0_1) ∧ w'.cell? ⟨gb214, 2, none⟩ = some (.bool true) ∧ w'.cell? ⟨gb214, 3, none⟩ = some (.string a0_3) ∧ w'.cell? ⟨gb214, 4, none⟩ = some (.int .i64 a0_4) ∧ w'.cell? ⟨gb214, 5, none⟩ = some (.int .i64 a0_5) ∧ w'.cell? ⟨gb214, 6, none⟩ = some (.int .i64 a0_6) ∧ w'.cell? ⟨gb214, 7, none⟩ = some (.string a0_7) ∧ w'.cell? ⟨gb214, 8, none⟩ = some (.int .u64 a0_8) ∧ w'.cell? ⟨gb214, 9, none⟩ = some (.slice A0_9 l0_9.length c0_9)) ∧ (Kd.R (Kd.int .u8) 5 w' w.heap.size (fun _ => True) s_ y215) ∧ (w'.heap[gb214]? = some (.cells #[.int .i64 a0_0, .int .i64 a0_1, .bool true, .string a0_3, .int .i64 a0_4, .int .i64 a0_5, .int .i64 a0_6, .string a0_7, .int .u64 a0_8, .slice A0_9 l0_9.length c0_9] 27 (0, 0))) ∧ (Below w.heap.size w w')) ?_ ?_
       rotate_left
       ·intro hCont
        refine two_ (i := 3) (j := 8) (Ni := some 14) (Nj := some 19) #[true, true, true, true, false, true, true, true, false, false, false] #[true, true, true, false, false, true, true, true, true, false, false] rfl rfl rfl rfl (two_of HT_.out (by kernel_rfl)) (by decide) (by decide) (fun K hK => ?_) (fun K hK => ?_)
        ·skip
         refine Kd.R_lit_step (Kd.int .u8) _ 5 ?hg (N := 14) ?hd (xs := ([(a0_0) % 256] : List Int)) (inner := [.int .u8 ((a0_0) % 256)]) (ok := fun _ => True) (okp := fun _ => True) ?hr ?hp (fun _ hk => hk) trivial (Below.refl _ _) (Nat.le_refl _) (by simp) ?_; (case hd => rfl); (case hg => rfl); (case hr => first | (go_simp; done) | (go_simp; rfl)); (case hp => exact (Reps.one (show Kd.M (Kd.int .u8) _ _ _ ((a0_0) % 256) [.int .u8 ((a0_0) % 256)] from rfl) (Reps.none _ _)))
         intro v216 w13 ho14 hb hg_ hnew_
         clear hg_ hnew_
         (first | rw [← Ny215.out] at ho14 | (simp only [Int.reduceToNat] at ho14; rw [← Ny215.out] at ho14))
         have HO217 := Aside0.mk (Kd.R_lower ho14 (below_size (by repeat (first | (with_reducible first | exact HB.out | apply below_alloc | apply pw_below_drewN | apply below_drew1 | refine below_set ?_ GE214.out) | exact HB.out))))
         replace BK214 := Aside0.mk (blk_below (bS BK214.out) hb)
         replace HB := Aside0.mk (below_step (by repeat (first | (with_reducible first | exact HB.out | apply below_alloc | apply pw_below_drewN | apply below_drew1 | refine below_set ?_ GE214.out) | exact HB.out)) hb)
         clear hb ho14
         refine hK.out _ _ ⟨(blk_cell BK214.out 0).trans rfl, (blk_cell BK214.out 1).trans rfl, (blk_cell BK214.out 2).trans rfl, (blk_cell BK214.out 3).trans rfl, (blk_cell BK214.out 4).trans rfl, (blk_cell BK214.out 5).trans rfl, (blk_cell BK214.out 6).trans rfl, (blk_cell BK214.out 7).trans rfl, (blk_cell BK214.out 8).trans rfl, (blk_cell BK214.out 9).trans rfl⟩ (fun hHeld => ?_)
         clear hK K
         refine norm_ (a' := ?_) ?_ ?_
         rotate_left
         ·show Act.put _ (some 14) _ = _
          simp only [Act.put, List.setIfInBounds_toArray, List.set_cons_zero, List.set_cons_succ, i64_w, i32_w]
          rfl
         refine two_ (i := 4) (j := 8) (Ni := some 15) (Nj := some 19) #[true, true, true, true, true, true, true, true, false, false, false] #[true, true, true, true, false, true, true, true, true, false, false] rfl rfl rfl rfl (two_of HT_.out (by kernel_rfl)) (by decide) (by decide) (fun K hK => ?_) (fun K hK => ?_)
         ·skip
          have hcv15 := own_string (P := Try.prog) Try.underlying40 Try.underlying5 Try.underlying9 (Kd.own_of_R HO217.out)
          refine value_ (w1 := ?_) (v := ?_) (by rfl) rfl ?_ ?_
          rotate_left 2
          ·go_simp
           constructor
           ·rfl
           ·rfl
          clear hcv15
          refine hK.out _ _ ⟨(blk_cell BK214.out 0).trans rfl, (blk_cell BK214.out 1).trans rfl, (blk_cell BK214.out 2).trans rfl, (blk_cell BK214.out 3).trans rfl, (blk_cell BK214.out 4).trans rfl, (blk_cell BK214.out 5).trans rfl, (blk_cell BK214.out 6).trans rfl, (blk_cell BK214.out 7).trans rfl, (blk_cell BK214.out 8).trans rfl, (blk_cell BK214.out 9).trans rfl⟩ (fun hHeld => ?_)
          clear hK K
          refine norm_ (a' := ?_) ?_ ?_
          rotate_left
          ·show Act.put _ (some 15) _ = _
           simp only [Act.put, List.setIfInBounds_toArray, List.set_cons_zero, List.set_cons_succ, i64_w, i32_w]
           rfl
          refine one_ (i := 8) (N := some 19) #[true, true, true, true, true, true, true, true, true, false, false] rfl rfl (one_of HT_.out (by kernel_rfl)) (by decide) (fun K hK => ?_)
          refine goes_ Try.func35 (by kernel_rfl) rfl #[.int .u64 (IntKind.u64.wrap (a0_1))] (by rfl) rfl rfl (by (try simp only [List.map_toArray, List.map_cons, List.map_nil]); first | done | rfl | (simp only [List.length_drop, List.length_take]; rfl)) ?_
          with_reducible refine (rollcallref01_Put.calls k (IntKind.u64.wrap (a0_1)) t218 _ A2.out).mono ?_
          rintro e w16 ⟨rfl, hb⟩
          refine ⟨_, rfl, ?_⟩
          replace HO217 := Aside0.mk (Kd.R_below (rS HO217.out) hb)
          replace BK214 := Aside0.mk (blk_below (bS BK214.out) hb)
          replace HB := Aside0.mk (below_step (by repeat (first | (with_reducible first | exact HB.out | apply below_alloc | apply pw_below_drewN | apply below_drew1 | refine below_set ?_ GE214.out) | exact HB.out)) hb)
          (try clear hb)
          (try clear hb2)
          (try clear hk)
          (try clear hi)
          refine hK.out _ _ ⟨(blk_cell BK214.out 0).trans rfl, (blk_cell BK214.out 1).trans rfl, (blk_cell BK214.out 2).trans rfl, (blk_cell BK214.out 3).trans rfl, (blk_cell BK214.out 4).trans rfl, (blk_cell BK214.out 5).trans rfl, (blk_cell BK214.out 6).trans rfl, (blk_cell BK214.out 7).trans rfl, (blk_cell BK214.out 8).trans rfl, (blk_cell BK214.out 9).trans rfl⟩ (fun hHeld => ?_)
          clear hK K
          refine norm_ (a' := ?_) ?_ ?_
          rotate_left
          ·show Act.put _ (some 19) _ = _
           simp only [Act.put, List.setIfInBounds_toArray, List.set_cons_zero, List.set_cons_succ, i64_w, i32_w]
           rfl
          exact norm_ (by simp only [putAll, Act.put, List.setIfInBounds_toArray, List.set_cons_zero, List.set_cons_succ]) (hCont (v216) _ ⟨hHeld, (rS HO217.out), (bS BK214.out), (by repeat (first | (with_reducible first | exact HB.out | apply below_alloc | apply pw_below_drewN | apply below_drew1 | refine below_set ?_ GE214.out) | exact HB.out))⟩)
         ·skip
          refine goes_ Try.func35 (by kernel_rfl) rfl #[.int .u64 (IntKind.u64.wrap (a0_1))] (by rfl) rfl rfl (by (try simp only [List.map_toArray, List.map_cons, List.map_nil]); first | done | rfl | (simp only [List.length_drop, List.length_take]; rfl)) ?_
          with_reducible refine (rollcallref01_Put.calls k (IntKind.u64.wrap (a0_1)) t218 _ A2.out).mono ?_
          rintro e w15 ⟨rfl, hb⟩
          refine ⟨_, rfl, ?_⟩
          replace HO217 := Aside0.mk (Kd.R_below (rS HO217.out) hb)
          replace BK214 := Aside0.mk (blk_below (bS BK214.out) hb)
          replace HB := Aside0.mk (below_step (by repeat (first | (with_reducible first | exact HB.out | apply below_alloc | apply pw_below_drewN | apply below_drew1 | refine below_set ?_ GE214.out) | exact HB.out)) hb)
          (try clear hb)
          (try clear hb2)
          (try clear hk)
          (try clear hi)
          refine hK.out _ _ ⟨(blk_cell BK214.out 0).trans rfl, (blk_cell BK214.out 1).trans rfl, (blk_cell BK214.out 2).trans rfl, (blk_cell BK214.out 3).trans rfl, (blk_cell BK214.out 4).trans rfl, (blk_cell BK214.out 5).trans rfl, (blk_cell BK214.out 6).trans rfl, (blk_cell BK214.out 7).trans rfl, (blk_cell BK214.out 8).trans rfl, (blk_cell BK214.out 9).trans rfl⟩ (fun hHeld => ?_)
          clear hK K
          refine norm_ (a' := ?_) ?_ ?_
          rotate_left
          ·show Act.put _ (some 19) _ = _
           simp only [Act.put, List.setIfInBounds_toArray, List.set_cons_zero, List.set_cons_succ, i64_w, i32_w]
           rfl
          refine one_ (i := 4) (N := some 15) #[true, true, true, true, true, true, true, true, true, false, false] rfl rfl (one_of HT_.out (by kernel_rfl)) (by decide) (fun K hK => ?_)
          have hcv16 := own_string (P := Try.prog) Try.underlying40 Try.underlying5 Try.underlying9 (Kd.own_of_R HO217.out)
          refine value_ (w1 := ?_) (v := ?_) (by rfl) rfl ?_ ?_
          rotate_left 2
          ·go_simp
           constructor
           ·rfl
           ·rfl
          clear hcv16
          refine hK.out _ _ ⟨(blk_cell BK214.out 0).trans rfl, (blk_cell BK214.out 1).trans rfl, (blk_cell BK214.out 2).trans rfl, (blk_cell BK214.out 3).trans rfl, (blk_cell BK214.out 4).trans rfl, (blk_cell BK214.out 5).trans rfl, (blk_cell BK214.out 6).trans rfl, (blk_cell BK214.out 7).trans rfl, (blk_cell BK214.out 8).trans rfl, (blk_cell BK214.out 9).trans rfl⟩ (fun hHeld => ?_)
          clear hK K
          refine norm_ (a' := ?_) ?_ ?_
          rotate_left
          ·show Act.put _ (some 15) _ = _
           simp only [Act.put, List.setIfInBounds_toArray, List.set_cons_zero, List.set_cons_succ, i64_w, i32_w]
           rfl
          exact norm_ (by simp only [putAll, Act.put, List.setIfInBounds_toArray, List.set_cons_zero, List.set_cons_succ]) (hCont (v216) _ ⟨hHeld, (rS HO217.out), (bS BK214.out), (by repeat (first | (with_reducible first | exact HB.out | apply below_alloc | apply pw_below_drewN | apply below_drew1 | refine below_set ?_ GE214.out) | exact HB.out))⟩)
        ·skip
         refine goes_ Try.func35 (by kernel_rfl) rfl #[.int .u64 (IntKind.u64.wrap (a0_1))] (by rfl) rfl rfl (by (try simp only [List.map_toArray, List.map_cons, List.map_nil]); first | done | rfl | (simp only [List.length_drop, List.length_take]; rfl)) ?_
         with_reducible refine (rollcallref01_Put.calls k (IntKind.u64.wrap (a0_1)) t218 _ A2.out).mono ?_
         rintro e w13 ⟨rfl, hb⟩
         refine ⟨_, rfl, ?_⟩
         replace BK214 := Aside0.mk (blk_below (bS BK214.out) hb)
         replace HB := Aside0.mk (below_step (by repeat (first | (with_reducible first | exact HB.out | apply below_alloc | apply pw_below_drewN | apply below_drew1 | refine below_set ?_ GE214.out) | exact HB.out)) hb)
         (try clear hb)
         (try clear hb2)
         (try clear hk)
         (try clear hi)
         refine hK.out _ _ ⟨(blk_cell BK214.out 0).trans rfl, (blk_cell BK214.out 1).trans rfl, (blk_cell BK214.out 2).trans rfl, (blk_cell BK214.out 3).trans rfl, (blk_cell BK214.out 4).trans rfl, (blk_cell BK214.out 5).trans rfl, (blk_cell BK214.out 6).trans rfl, (blk_cell BK214.out 7).trans rfl, (blk_cell BK214.out 8).trans rfl, (blk_cell BK214.out 9).trans rfl⟩ (fun hHeld => ?_)
         clear hK K
         refine norm_ (a' := ?_) ?_ ?_
         rotate_left
         ·show Act.put _ (some 19) _ = _
          simp only [Act.put, List.setIfInBounds_toArray, List.set_cons_zero, List.set_cons_succ, i64_w, i32_w]
          rfl
         refine one_ (i := 3) (N := some 14) #[true, true, true, true, false, true, true, true, true, false, false] rfl rfl (one_of HT_.out (by kernel_rfl)) (by decide) (fun K hK => ?_)
         refine Kd.R_lit_step (Kd.int .u8) _ 5 ?hg (N := 14) ?hd (xs := ([(a0_0) % 256] : List Int)) (inner := [.int .u8 ((a0_0) % 256)]) (ok := fun _ => True) (okp := fun _ => True) ?hr ?hp (fun _ hk => hk) trivial (Below.refl _ _) (Nat.le_refl _) (by simp) ?_; (case hd => rfl); (case hg => rfl); (case hr => first | (go_simp; done) | (go_simp; rfl)); (case hp => exact (Reps.one (show Kd.M (Kd.int .u8) _ _ _ ((a0_0) % 256) [.int .u8 ((a0_0) % 256)] from rfl) (Reps.none _ _)))
         intro v216 w14 ho15 hb hg_ hnew_
         clear hg_ hnew_
         (first | rw [← Ny215.out] at ho15 | (simp only [Int.reduceToNat] at ho15; rw [← Ny215.out] at ho15))
         have HO217 := Aside0.mk (Kd.R_lower ho15 (below_size (by repeat (first | (with_reducible first | exact HB.out | apply below_alloc | apply pw_below_drewN | apply below_drew1 | refine below_set ?_ GE214.out) | exact HB.out))))
         replace BK214 := Aside0.mk (blk_below (bS BK214.out) hb)
         replace HB := Aside0.mk (below_step (by repeat (first | (with_reducible first | exact HB.out | apply below_alloc | apply pw_below_drewN | apply below_drew1 | refine below_set ?_ GE214.out) | exact HB.out)) hb)
         clear hb ho15
         refine hK.out _ _ ⟨(blk_cell BK214.out 0).trans rfl, (blk_cell BK214.out 1).trans rfl, (blk_cell BK214.out 2).trans rfl, (blk_cell BK214.out 3).trans rfl, (blk_cell BK214.out 4).trans rfl, (blk_cell BK214.out 5).trans rfl, (blk_cell BK214.out 6).trans rfl, (blk_cell BK214.out 7).trans rfl, (blk_cell BK214.out 8).trans rfl, (blk_cell BK214.out 9).trans rfl⟩ (fun hHeld => ?_)
         clear hK K
         refine norm_ (a' := ?_) ?_ ?_
         rotate_left
         ·show Act.put _ (some 14) _ = _
          simp only [Act.put, List.setIfInBounds_toArray, List.set_cons_zero, List.set_cons_succ, i64_w, i32_w]
          rfl
         refine one_ (i := 4) (N := some 15) #[true, true, true, true, true, true, true, true, true, false, false] rfl rfl (one_of HT_.out (by kernel_rfl)) (by decide) (fun K hK => ?_)
         have hcv16 := own_string (P := Try.prog) Try.underlying40 Try.underlying5 Try.underlying9 (Kd.own_of_R HO217.out)
         refine value_ (w1 := ?_) (v := ?_) (by rfl) rfl ?_ ?_
         rotate_left 2
         ·go_simp
          constructor
          ·rfl
          ·rfl
         clear hcv16
         refine hK.out _ _ ⟨(blk_cell BK214.out 0).trans rfl, (blk_cell BK214.out 1).trans rfl, (blk_cell BK214.out 2).trans rfl, (blk_cell BK214.out 3).trans rfl, (blk_cell BK214.out 4).trans rfl, (blk_cell BK214.out 5).trans rfl, (blk_cell BK214.out 6).trans rfl, (blk_cell BK214.out 7).trans rfl, (blk_cell BK214.out 8).trans rfl, (blk_cell BK214.out 9).trans rfl⟩ (fun hHeld => ?_)
         clear hK K
         refine norm_ (a' := ?_) ?_ ?_
         rotate_left
         ·show Act.put _ (some 15) _ = _
          simp only [Act.put, List.setIfInBounds_toArray, List.set_cons_zero, List.set_cons_succ, i64_w, i32_w]
          rfl
         exact norm_ (by simp only [putAll, Act.put, List.setIfInBounds_toArray, List.set_cons_zero, List.set_cons_succ]) (hCont (v216) _ ⟨hHeld, (rS HO217.out), (bS BK214.out), (by repeat (first | (with_reducible first | exact HB.out | apply below_alloc | apply pw_below_drewN | apply below_drew1 | refine below_set ?_ GE214.out) | exact HB.out))⟩)
       rintro v216 w17 ⟨hS_, h0_, h1_, h2_⟩
       have HO217 : Aside0 (Kd.R (Kd.int .u8) 5 w17 w.heap.size (fun _ => True) v216 y215) := ⟨h0_⟩
       replace BK214 : Aside0 (w17.heap[gb214]? = some (.cells #[.int .i64 a0_0, .int .i64 a0_1, .bool true, .string a0_3, .int .i64 a0_4, .int .i64 a0_5, .int .i64 a0_6, .string a0_7, .int .u64 a0_8, .slice A0_9 l0_9.length c0_9] 27 (0, 0))) := ⟨h1_⟩
       replace HB : Aside0 (Below w.heap.size w w17) := ⟨h2_⟩
       clear h0_ h1_ h2_
       have hHeld : w17.cell? ⟨gb214, 0, none⟩ = some (.int .i64 a0_0) ∧ w17.cell? ⟨gb214, 1, none⟩ = some (.int .i64 a0_1) ∧ w17.cell? ⟨gb214, 2, none⟩ = some (.bool true) ∧ w17.cell? ⟨gb214, 3, none⟩ = some (.string a0_3) ∧ w17.cell? ⟨gb214, 4, none⟩ = some (.int .i64 a0_4) ∧ w17.cell? ⟨gb214, 5, none⟩ = some (.int .i64 a0_5) ∧ w17.cell? ⟨gb214, 6, none⟩ = some (.int .i64 a0_6) ∧ w17.cell? ⟨gb214, 7, none⟩ = some (.string a0_7) ∧ w17.cell? ⟨gb214, 8, none⟩ = some (.int .u64 a0_8) ∧ w17.cell? ⟨gb214, 9, none⟩ = some (.slice A0_9 l0_9.length c0_9) := hS_
       refine norm_ (a' := ?_) ?_ ?_
       rotate_left
       ·simp only [putAll, Act.put, List.setIfInBounds_toArray, List.set_cons_zero, List.set_cons_succ]
        rfl
       refine pure_ (i := 9) (N := some 20) (v := ?_) (a' := ?_) #[true, true, true, true, true, true, true, true, true, true, false] rfl rfl (any_of HT_.out (by kernel_rfl)) (fun _ _ _ h => h) (Or.inl ⟨by rfl, ?_⟩) ?_ ?_
       rotate_left
       ·intro w'
        go_simp
        with_reducible rfl
       rotate_left
       ·simp only [Act.put, List.setIfInBounds_toArray, List.set_cons_zero, List.set_cons_succ, i64_w, i32_w]
        rfl
       refine pure_ (i := 10) (N := some 3) (v := ?_) (a' := ?_) #[true, true, true, true, true, true, true, true, true, true, true] rfl rfl (any_of HT_.out (by kernel_rfl)) (fun _ _ _ h => h) (Or.inl ⟨by rfl, ?_⟩) ?_ ?_
       rotate_left
       ·intro w'
        go_simp
        with_reducible rfl
       rotate_left
       ·simp only [Act.put, List.setIfInBounds_toArray, List.set_cons_zero, List.set_cons_succ, i64_w, i32_w]
        rfl
       refine done_ (done_of HT_.out (by kernel_rfl)) ?_
       have hcz18_0 : w17.cell? ⟨gb214, 0, none⟩ = some (.int .i64 a0_0) := (blk_cell BK214.out 0).trans rfl
       have hcz18_1 : w17.cell? ⟨gb214, 1, none⟩ = some (.int .i64 a0_1) := (blk_cell BK214.out 1).trans rfl
       have hcz18_2 : w17.cell? ⟨gb214, 2, none⟩ = some (.bool true) := (blk_cell BK214.out 2).trans rfl
       have hcz18_3 : w17.cell? ⟨gb214, 3, none⟩ = some (.string a0_3) := (blk_cell BK214.out 3).trans rfl
       have hcz18_4 : w17.cell? ⟨gb214, 4, none⟩ = some (.int .i64 a0_4) := (blk_cell BK214.out 4).trans rfl
       have hcz18_5 : w17.cell? ⟨gb214, 5, none⟩ = some (.int .i64 a0_5) := (blk_cell BK214.out 5).trans rfl
       have hcz18_6 : w17.cell? ⟨gb214, 6, none⟩ = some (.int .i64 a0_6) := (blk_cell BK214.out 6).trans rfl
       have hcz18_7 : w17.cell? ⟨gb214, 7, none⟩ = some (.string a0_7) := (blk_cell BK214.out 7).trans rfl
       have hcz18_8 : w17.cell? ⟨gb214, 8, none⟩ = some (.int .u64 a0_8) := (blk_cell BK214.out 8).trans rfl
       have hcz18_9 : w17.cell? ⟨gb214, 9, none⟩ = some (.slice A0_9 l0_9.length c0_9) := (blk_cell BK214.out 9).trans rfl
       have hfz18_0 := blk_frozen BK214.out 0
       have hfz18_1 := blk_frozen BK214.out 1
       have hfz18_2 := blk_frozen BK214.out 2
       have hfz18_3 := blk_frozen BK214.out 3
       have hfz18_4 := blk_frozen BK214.out 4
       have hfz18_5 := blk_frozen BK214.out 5
       have hfz18_6 := blk_frozen BK214.out 6
       have hfz18_7 := blk_frozen BK214.out 7
       have hfz18_8 := blk_frozen BK214.out 8
       have hfz18_9 := blk_frozen BK214.out 9
       try go_wp2_with (first | ((with_reducible refine gate_callee (f := 36) rfl ?_); refine goesL_ (some 28) rfl rfl Try.func36 (by kernel_rfl) rfl #[.string a0_3] rfl (by (try simp only [List.map_toArray, List.map_cons, List.map_nil]); first | done | rfl | (simp only [List.length_drop, List.length_take]; rfl)) ?_; (with_reducible refine (rollcallref03_Put.calls k a0_3 t219 t220 _ A5.out).mono ?_); rintro e w19 ⟨rfl, hb⟩; refine ⟨_, rfl, ?_⟩; replace HO217 := Aside0.mk (Kd.R_below (rS HO217.out) hb); replace BK214 := Aside0.mk (blk_below (bS BK214.out) hb); replace HB := Aside0.mk (below_step (hS HB.out) hb); (try clear hb); (try clear hb2); (try clear hk); (try clear hi); have hcz20_0 : w19.cell? ⟨gb214, 0, none⟩ = some (.int .i64 a0_0) := (blk_cell BK214.out 0).trans rfl; have hcz20_1 : w19.cell? ⟨gb214, 1, none⟩ = some (.int .i64 a0_1) := (blk_cell BK214.out 1).trans rfl; have hcz20_2 : w19.cell? ⟨gb214, 2, none⟩ = some (.bool true) := (blk_cell BK214.out 2).trans rfl; have hcz20_3 : w19.cell? ⟨gb214, 3, none⟩ = some (.string a0_3) := (blk_cell BK214.out 3).trans rfl; have hcz20_4 : w19.cell? ⟨gb214, 4, none⟩ = some (.int .i64 a0_4) := (blk_cell BK214.out 4).trans rfl; have hcz20_5 : w19.cell? ⟨gb214, 5, none⟩ = some (.int .i64 a0_5) := (blk_cell BK214.out 5).trans rfl; have hcz20_6 : w19.cell? ⟨gb214, 6, none⟩ = some (.int .i64 a0_6) := (blk_cell BK214.out 6).trans rfl; have hcz20_7 : w19.cell? ⟨gb214, 7, none⟩ = some (.string a0_7) := (blk_cell BK214.out 7).trans rfl; have hcz20_8 : w19.cell? ⟨gb214, 8, none⟩ = some (.int .u64 a0_8) := (blk_cell BK214.out 8).trans rfl; have hcz20_9 : w19.cell? ⟨gb214, 9, none⟩ = some (.slice A0_9 l0_9.length c0_9) := (blk_cell BK214.out 9).trans rfl; have hfz20_0 := blk_frozen BK214.out 0; have hfz20_1 := blk_frozen BK214.out 1; have hfz20_2 := blk_frozen BK214.out 2; have hfz20_3 := blk_frozen BK214.out 3; have hfz20_4 := blk_frozen BK214.out 4; have hfz20_5 := blk_frozen BK214.out 5; have hfz20_6 := blk_frozen BK214.out 6; have hfz20_7 := blk_frozen BK214.out 7; have hfz20_8 := blk_frozen BK214.out 8; have hfz20_9 := blk_frozen BK214.out 9) | ((with_reducible refine gate_callee (f := 37) rfl ?_); refine goesL_ (some 41) rfl rfl Try.func37 (by kernel_rfl) rfl #[.agg #[.int .i64 a0_4, .int .i64 a0_5, .int .i64 a0_6, .string a0_7]] rfl (by (try simp only [List.map_toArray, List.map_cons, List.map_nil]); first | done | rfl | (simp only [List.length_drop, List.length_take]; rfl)) ?_; (with_reducible refine (rollcallref04_Put.calls k a0_4 a0_5 a0_6 a0_7 t221 t222 _ A7.out).mono ?_); rintro e w21 ⟨rfl, hb⟩; refine ⟨_, rfl, ?_⟩; replace HO217 := Aside0.mk (Kd.R_below (rS HO217.out) hb); replace BK214 := Aside0.mk (blk_below (bS BK214.out) hb); replace HB := Aside0.mk (below_step (hS HB.out) hb); (try clear hb); (try clear hb2); (try clear hk); (try clear hi)))
       go_ret
       exact ⟨by first | rfl | (simp [errW_none, errW_some] <;> rfl) | (simp [*, errW_none, errW_some] <;> rfl), by repeat (first | (with_reducible first | exact HB.out | apply below_alloc | apply pw_below_drewN | apply below_drew1 | refine below_set ?_ GE214.out) | exact HB.out)⟩
      ·rw [if_neg c10] at H
       exact absurd H (by simp)
     ·rw [if_neg c9] at H
      exact absurd H (by simp)
    ·rw [if_neg c8] at H
     exact absurd H (by simp)
   ·replace c6 := Bool.eq_false_iff.mpr c6
    subst c6
    have H1 : (if ((strOfNums y215) ++ t218).size + 1 ≤ 9223372036854775807 then (if (((strOfNums y215) ++ t218) ++ (⟨#[0]⟩ : ByteArray)).size + t219.size ≤ 9223372036854775807 then (some ((((strOfNums y215) ++ t218) ++ (⟨#[0]⟩ : ByteArray)) ++ t219)) else (none)) else (none)) = some r := by rw [if_neg (show ¬ (false = true) by decide)] at H; exact H
    clear H
    have H := H1
    clear H1
    by_cases c22 : ((strOfNums y215) ++ t218).size + 1 ≤ 9223372036854775807
    ·rw [if_pos c22] at H
     have c22b0 := eq_true c22
     have c22b1 : decide (((strOfNums y215) ++ t218).size + 1 ≤ 9223372036854775807) = true := decide_eq_true c22
     try have c22b2 : (9223372036854775807 < ((strOfNums y215) ++ t218).size + 1) = False := eq_false (Nat.not_lt.2 c22)
     (try (have c22b3 := c22b0; simp only [ByteArray.size_append] at c22b3))
     (try (have c22b4 := c22b2; simp only [ByteArray.size_append] at c22b4))
     (try (have c22b5 := c22b3; simp only [show (⟨#[1]⟩ : ByteArray).size = 1 from rfl, show (⟨#[0]⟩ : ByteArray).size = 1 from rfl] at c22b5))
     (try (have c22b6 := c22b4; simp only [show (⟨#[1]⟩ : ByteArray).size = 1 from rfl, show (⟨#[0]⟩ : ByteArray).size = 1 from rfl] at c22b6))
     clear c22
     by_cases c23 : (((strOfNums y215) ++ t218) ++ (⟨#[0]⟩ : ByteArray)).size + t219.size ≤ 9223372036854775807
     ·rw [if_pos c23] at H
      have c23b0 := eq_true c23
      have c23b1 : decide ((((strOfNums y215) ++ t218) ++ (⟨#[0]⟩ : ByteArray)).size + t219.size ≤ 9223372036854775807) = true := decide_eq_true c23
      try have c23b2 : (9223372036854775807 < (((strOfNums y215) ++ t218) ++ (⟨#[0]⟩ : ByteArray)).size + t219.size) = False := eq_false (Nat.not_lt.2 c23)
      (try (have c23b3 := c23b0; simp only [ByteArray.size_append] at c23b3))
      (try (have c23b4 := c23b2; simp only [ByteArray.size_append] at c23b4))
      (try (have c23b5 := c23b3; simp only [show (⟨#[1]⟩ : ByteArray).size = 1 from rfl, show (⟨#[0]⟩ : ByteArray).size = 1 from rfl] at c23b5))
      (try (have c23b6 := c23b4; simp only [show (⟨#[1]⟩ : ByteArray).size = 1 from rfl, show (⟨#[0]⟩ : ByteArray).size = 1 from rfl] at c23b6))
      clear c23
      obtain rfl := Option.some.inj H
      go_enter Try.func26, Try.ntmps26
      try go_wp2_with (first | ((with_reducible refine gate_dst (N := 1) rfl ?_); refine box_event ?hg (N := 1) ?hd (cs := #[.int .i64 a0_0, .int .i64 a0_1, .bool false, .string a0_3, .int .i64 a0_4, .int .i64 a0_5, .int .i64 a0_6, .string a0_7, .int .u64 a0_8, .slice A0_9 l0_9.length c0_9]) (t := 27) ?hr ?_; (case hd => rfl); (case hg => rfl); (case hr => first | (go_simp; done) | (go_simp; rfl)); intro gb214 hg w24 hbox hb; have BK214 := Aside0.mk (hbox); have GW214 := Aside0.mk ((by rw [hg]; exact (below_size (hS HB.out)) : w.heap.size ≤ gb214)); have GE214 := Aside0.mk ((by rw [hg]; exact (below_size (hS HB.out)) : w.heap.size ≤ gb214)); replace HB := Aside0.mk (below_step (hS HB.out) hb); clear hb hbox hg))
      replace BK214 := Aside0.mk (blk_drew BK214.out)
      replace HB := Aside0.mk (below_drew1 HB.out)
      refine start_ (n := 11) (S := fun w' => w'.cell? ⟨gb214, 0, none⟩ = some (.int .i64 a0_0) ∧ w'.cell? ⟨gb214, 1, none⟩ = some (.int .i64 a0_1) ∧ w'.cell? ⟨gb214, 2, none⟩ = some (.bool false) ∧ w'.cell? ⟨gb214, 3, none⟩ = some (.string a0_3) ∧ w'.cell? ⟨gb214, 4, none⟩ = some (.int .i64 a0_4) ∧ w'.cell? ⟨gb214, 5, none⟩ = some (.int .i64 a0_5) ∧ w'.cell? ⟨gb214, 6, none⟩ = some (.int .i64 a0_6) ∧ w'.cell? ⟨gb214, 7, none⟩ = some (.string a0_7) ∧ w'.cell? ⟨gb214, 8, none⟩ = some (.int .u64 a0_8) ∧ w'.cell? ⟨gb214, 9, none⟩ = some (.slice A0_9 l0_9.length c0_9)) (ds := []) #[false, false, false, false, false, false, false, false, false, false, false] (by kernel_rfl) rfl rfl ⟨(blk_cell BK214.out 0).trans rfl, (blk_cell BK214.out 1).trans rfl, (blk_cell BK214.out 2).trans rfl, (blk_cell BK214.out 3).trans rfl, (blk_cell BK214.out 4).trans rfl, (blk_cell BK214.out 5).trans rfl, (blk_cell BK214.out 6).trans rfl, (blk_cell BK214.out 7).trans rfl, (blk_cell BK214.out 8).trans rfl, (blk_cell BK214.out 9).trans rfl⟩ (fun hHeld => ?_); refine with_tabW rollcallref06_plain.tab1 rollcallref06_plain.bits1 (fun HT_ HW_ => ?_)
      generalize w24.drew = w25 at BK214 HB hHeld ⊢
      refine pure_ (i := 0) (N := some 11) (v := ?_) (a' := ?_) #[true, false, false, false, false, false, false, false, false, false, false] rfl rfl (any_of HT_.out (by kernel_rfl)) (fun _ _ _ h => h) (Or.inl ⟨by rfl, ?_⟩) ?_ ?_
      rotate_left
      ·intro w'
       go_simp
       with_reducible rfl
      rotate_left
      ·simp only [Act.put, List.setIfInBounds_toArray, List.set_cons_zero, List.set_cons_succ, i64_w, i32_w]
       rfl
      refine pure_ (i := 5) (N := some 16) (v := ?_) (a' := ?_) #[true, false, false, false, false, true, false, false, false, false, false] rfl rfl (any_of HT_.out (by kernel_rfl)) (fun _ _ _ h => h) (Or.inl ⟨by rfl, ?_⟩) ?_ ?_
      rotate_left
      ·intro w'
       go_simp
       with_reducible rfl
      rotate_left
      ·simp only [Act.put, List.setIfInBounds_toArray, List.set_cons_zero, List.set_cons_succ, i64_w, i32_w]
       rfl
      refine take_ (i := 1) (N := some 12) (v := ?_) (a' := ?_) #[true, true, false, false, false, true, false, false, false, false, false] rfl rfl (take_ofW HT_.out HW_.out (by kernel_rfl)) (fun _ _ _ h => h) (Or.inl ⟨by rfl, ?_⟩) hHeld ?_ ?_
      rotate_left
      ·rintro w' ⟨s0, s1, s2, s3, s4, s5, s6, s7, s8, s9⟩
       go_simp
       with_reducible rfl
      rotate_left
      ·simp only [Act.put, List.setIfInBounds_toArray, List.set_cons_zero, List.set_cons_succ, i64_w, i32_w]
       rfl
      refine pure_ (i := 2) (N := some 13) (v := ?_) (a' := ?_) #[true, true, true, false, false, true, false, false, false, false, false] rfl rfl (any_of HT_.out (by kernel_rfl)) (fun _ _ _ h => h) (Or.inl ⟨by rfl, ?_⟩) ?_ ?_
      rotate_left
      ·intro w'
       go_simp
       with_reducible rfl
      rotate_left
      ·simp only [Act.put, List.setIfInBounds_toArray, List.set_cons_zero, List.set_cons_succ, i64_w, i32_w]
       rfl
      refine take_ (i := 6) (N := some 17) (v := ?_) (a' := ?_) #[true, true, true, false, false, true, true, false, false, false, false] rfl rfl (take_ofW HT_.out HW_.out (by kernel_rfl)) (fun _ _ _ h => h) (Or.inl ⟨by rfl, ?_⟩) hHeld ?_ ?_
      rotate_left
      ·rintro w' ⟨s0, s1, s2, s3, s4, s5, s6, s7, s8, s9⟩
       go_simp
       with_reducible rfl
      rotate_left
      ·simp only [Act.put, List.setIfInBounds_toArray, List.set_cons_zero, List.set_cons_succ, i64_w, i32_w]
       rfl
      refine pure_ (i := 7) (N := some 18) (v := ?_) (a' := ?_) #[true, true, true, false, false, true, true, true, false, false, false] rfl rfl (any_of HT_.out (by kernel_rfl)) (fun _ _ _ h => h) (Or.inl ⟨by rfl, ?_⟩) ?_ ?_
      rotate_left
      ·intro w'
       go_simp
       with_reducible rfl
      rotate_left
      ·simp only [Act.put, List.setIfInBounds_toArray, List.set_cons_zero, List.set_cons_succ, i64_w, i32_w]
       rfl
      refine join_ (σ := Value) 2 #[true, true, true, true, true, true, true, true, true, false, false] (fun s_ => [(14, s_), (15, .string (strOfNums y215)), (19, .string t218)]) (fun s_ w' => (w'.cell? ⟨gb214, 0, none⟩ = some (.int .i64 a0_0) ∧ w'.cell? ⟨gb214, 1, none⟩ = some (.int .i64 a0_1) ∧ w'.cell? ⟨gb214, 2, none⟩ = some (.bool false) ∧ w'.cell? ⟨gb214, 3, none⟩ = some (.string a0_3) ∧ w'.cell? ⟨gb214, 4, none⟩ = some (.int .i64 a0_4) ∧ w'.cell? ⟨gb214, 5, none⟩ = some (.int .i64 a0_5) ∧ w'.cell? ⟨gb214, 6, none⟩ = some (.int .i64 a0_6) ∧ w'.cell? ⟨gb214, 7, none⟩ = some (.string a0_7) ∧ w'.cell? ⟨gb214, 8, none⟩ = some (.int .u64 a0_8) ∧ w'.cell? ⟨gb214, 9, none⟩ = some (.slice A0_9 l0_9.length c0_9)) ∧ (Kd.R (Kd.int .u8) 5 w' w.heap.size (fun _ => True) s_ y215) ∧ (w'.heap[gb214]? = some (.cells #[.int .i64 a0_0, .int .i64 a0_1, .bool false, .string a0_3, .int .i64 a0_4, .int .i64 a0_5, .int .i64 a0_6, .string a0_7, .int .u64 a0_8, .slice A0_9 l0_9.length c0_9] 27 (0, 0))) ∧ (Below w.heap.size w w')) ?_ ?_
      rotate_left
      ·intro hCont
       refine two_ (i := 3) (j := 8) (Ni := some 14) (Nj := some 19) #[true, true, true, true, false, true, true, true, false, false, false] #[true, true, true, false, false, true, true, true, true, false, false] rfl rfl rfl rfl (two_of HT_.out (by kernel_rfl)) (by decide) (by decide) (fun K hK => ?_) (fun K hK => ?_)
       ·skip
        refine Kd.R_lit_step (Kd.int .u8) _ 5 ?hg (N := 14) ?hd (xs := ([(a0_0) % 256] : List Int)) (inner := [.int .u8 ((a0_0) % 256)]) (ok := fun _ => True) (okp := fun _ => True) ?hr ?hp (fun _ hk => hk) trivial (Below.refl _ _) (Nat.le_refl _) (by simp) ?_; (case hd => rfl); (case hg => rfl); (case hr => first | (go_simp; done) | (go_simp; rfl)); (case hp => exact (Reps.one (show Kd.M (Kd.int .u8) _ _ _ ((a0_0) % 256) [.int .u8 ((a0_0) % 256)] from rfl) (Reps.none _ _)))
        intro v216 w26 ho27 hb hg_ hnew_
        clear hg_ hnew_
        (first | rw [← Ny215.out] at ho27 | (simp only [Int.reduceToNat] at ho27; rw [← Ny215.out] at ho27))
        have HO217 := Aside0.mk (Kd.R_lower ho27 (below_size (by repeat (first | (with_reducible first | exact HB.out | apply below_alloc | apply pw_below_drewN | apply below_drew1 | refine below_set ?_ GE214.out) | exact HB.out))))
        replace BK214 := Aside0.mk (blk_below (bS BK214.out) hb)
        replace HB := Aside0.mk (below_step (by repeat (first | (with_reducible first | exact HB.out | apply below_alloc | apply pw_below_drewN | apply below_drew1 | refine below_set ?_ GE214.out) | exact HB.out)) hb)
        clear hb ho27
        refine hK.out _ _ ⟨(blk_cell BK214.out 0).trans rfl, (blk_cell BK214.out 1).trans rfl, (blk_cell BK214.out 2).trans rfl, (blk_cell BK214.out 3).trans rfl, (blk_cell BK214.out 4).trans rfl, (blk_cell BK214.out 5).trans rfl, (blk_cell BK214.out 6).trans rfl, (blk_cell BK214.out 7).trans rfl, (blk_cell BK214.out 8).trans rfl, (blk_cell BK214.out 9).trans rfl⟩ (fun hHeld => ?_)
        clear hK K
        refine norm_ (a' := ?_) ?_ ?_
        rotate_left
        ·show Act.put _ (some 14) _ = _
         simp only [Act.put, List.setIfInBounds_toArray, List.set_cons_zero, List.set_cons_succ, i64_w, i32_w]
         rfl
        refine two_ (i := 4) (j := 8) (Ni := some 15) (Nj := some 19) #[true, true, true, true, true, true, true, true, false, false, false] #[true, true, true, true, false, true, true, true, true, false, false] rfl rfl rfl rfl (two_of HT_.out (by kernel_rfl)) (by decide) (by decide) (fun K hK => ?_) (fun K hK => ?_)
        ·skip
         have hcv28 := own_string (P := Try.prog) Try.underlying40 Try.underlying5 Try.underlying9 (Kd.own_of_R HO217.out)
         refine value_ (w1 := ?_) (v := ?_) (by rfl) rfl ?_ ?_
         rotate_left 2
         ·go_simp
          constructor
          ·rfl
          ·rfl
         clear hcv28
         refine hK.out _ _ ⟨(blk_cell BK214.out 0).trans rfl, (blk_cell BK214.out 1).trans rfl, (blk_cell BK214.out 2).trans rfl, (blk_cell BK214.out 3).trans rfl, (blk_cell BK214.out 4).trans rfl, (blk_cell BK214.out 5).trans rfl, (blk_cell BK214.out 6).trans rfl, (blk_cell BK214.out 7).trans rfl, (blk_cell BK214.out 8).trans rfl, (blk_cell BK214.out 9).trans rfl⟩ (fun hHeld => ?_)
         clear hK K
         refine norm_ (a' := ?_) ?_ ?_
         rotate_left
         ·show Act.put _ (some 15) _ = _
          simp only [Act.put, List.setIfInBounds_toArray, List.set_cons_zero, List.set_cons_succ, i64_w, i32_w]
          rfl
         refine one_ (i := 8) (N := some 19) #[true, true, true, true, true, true, true, true, true, false, false] rfl rfl (one_of HT_.out (by kernel_rfl)) (by decide) (fun K hK => ?_)
         refine goes_ Try.func35 (by kernel_rfl) rfl #[.int .u64 (IntKind.u64.wrap (a0_1))] (by rfl) rfl rfl (by (try simp only [List.map_toArray, List.map_cons, List.map_nil]); first | done | rfl | (simp only [List.length_drop, List.length_take]; rfl)) ?_
         with_reducible refine (rollcallref01_Put.calls k (IntKind.u64.wrap (a0_1)) t218 _ A2.out).mono ?_
         rintro e w29 ⟨rfl, hb⟩
         refine ⟨_, rfl, ?_⟩
         replace HO217 := Aside0.mk (Kd.R_below (rS HO217.out) hb)
         replace BK214 := Aside0.mk (blk_below (bS BK214.out) hb)
         replace HB := Aside0.mk (below_step (by repeat (first | (with_reducible first | exact HB.out | apply below_alloc | apply pw_below_drewN | apply below_drew1 | refine below_set ?_ GE214.out) | exact HB.out)) hb)
         (try clear hb)
         (try clear hb2)
         (try clear hk)
         (try clear hi)
         refine hK.out _ _ ⟨(blk_cell BK214.out 0).trans rfl, (blk_cell BK214.out 1).trans rfl, (blk_cell BK214.out 2).trans rfl, (blk_cell BK214.out 3).trans rfl, (blk_cell BK214.out 4).trans rfl, (blk_cell BK214.out 5).trans rfl, (blk_cell BK214.out 6).trans rfl, (blk_cell BK214.out 7).trans rfl, (blk_cell BK214.out 8).trans rfl, (blk_cell BK214.out 9).trans rfl⟩ (fun hHeld => ?_)
         clear hK K
         refine norm_ (a' := ?_) ?_ ?_
         rotate_left
         ·show Act.put _ (some 19) _ = _
          simp only [Act.put, List.setIfInBounds_toArray, List.set_cons_zero, List.set_cons_succ, i64_w, i32_w]
          rfl
         exact norm_ (by simp only [putAll, Act.put, List.setIfInBounds_toArray, List.set_cons_zero, List.set_cons_succ]) (hCont (v216) _ ⟨hHeld, (rS HO217.out), (bS BK214.out), (by repeat (first | (with_reducible first | exact HB.out | apply below_alloc | apply pw_below_drewN | apply below_drew1 | refine below_set ?_ GE214.out) | exact HB.out))⟩)
        ·skip
         refine goes_ Try.func35 (by kernel_rfl) rfl #[.int .u64 (IntKind.u64.wrap (a0_1))] (by rfl) rfl rfl (by (try simp only [List.map_toArray, List.map_cons, List.map_nil]); first | done | rfl | (simp only [List.length_drop, List.length_take]; rfl)) ?_
         with_reducible refine (rollcallref01_Put.calls k (IntKind.u64.wrap (a0_1)) t218 _ A2.out).mono ?_
         rintro e w28 ⟨rfl, hb⟩
         refine ⟨_, rfl, ?_⟩
         replace HO217 := Aside0.mk (Kd.R_below (rS HO217.out) hb)
         replace BK214 := Aside0.mk (blk_below (bS BK214.out) hb)
         replace HB := Aside0.mk (below_step (by repeat (first | (with_reducible first | exact HB.out | apply below_alloc | apply pw_below_drewN | apply below_drew1 | refine below_set ?_ GE214.out) | exact HB.out)) hb)
         (try clear hb)
         (try clear hb2)
         (try clear hk)
         (try clear hi)
         refine hK.out _ _ ⟨(blk_cell BK214.out 0).trans rfl, (blk_cell BK214.out 1).trans rfl, (blk_cell BK214.out 2).trans rfl, (blk_cell BK214.out 3).trans rfl, (blk_cell BK214.out 4).trans rfl, (blk_cell BK214.out 5).trans rfl, (blk_cell BK214.out 6).trans rfl, (blk_cell BK214.out 7).trans rfl, (blk_cell BK214.out 8).trans rfl, (blk_cell BK214.out 9).trans rfl⟩ (fun hHeld => ?_)
         clear hK K
         refine norm_ (a' := ?_) ?_ ?_
         rotate_left
         ·show Act.put _ (some 19) _ = _
          simp only [Act.put, List.setIfInBounds_toArray, List.set_cons_zero, List.set_cons_succ, i64_w, i32_w]
          rfl
         refine one_ (i := 4) (N := some 15) #[true, true, true, true, true, true, true, true, true, false, false] rfl rfl (one_of HT_.out (by kernel_rfl)) (by decide) (fun K hK => ?_)
         have hcv29 := own_string (P := Try.prog) Try.underlying40 Try.underlying5 Try.underlying9 (Kd.own_of_R HO217.out)
         refine value_ (w1 := ?_) (v := ?_) (by rfl) rfl ?_ ?_
         rotate_left 2
         ·go_simp
          constructor
          ·rfl
          ·rfl
         clear hcv29
         refine hK.out _ _ ⟨(blk_cell BK214.out 0).trans rfl, (blk_cell BK214.out 1).trans rfl, (blk_cell BK214.out 2).trans rfl, (blk_cell BK214.out 3).trans rfl, (blk_cell BK214.out 4).trans rfl, (blk_cell BK214.out 5).trans rfl, (blk_cell BK214.out 6).trans rfl, (blk_cell BK214.out 7).trans rfl, (blk_cell BK214.out 8).trans rfl, (blk_cell BK214.out 9).trans rfl⟩ (fun hHeld => ?_)
         clear hK K
         refine norm_ (a' := ?_) ?_ ?_
         rotate_left
         ·show Act.put _ (some 15) _ = _
          simp only [Act.put, List.setIfInBounds_toArray, List.set_cons_zero, List.set_cons_succ, i64_w, i32_w]
          rfl
         exact norm_ (by simp only [putAll, Act.put, List.setIfInBounds_toArray, List.set_cons_zero, List.set_cons_succ]) (hCont (v216) _ ⟨hHeld, (rS HO217.out), (bS BK214.out), (by repeat (first | (with_reducible first | exact HB.out | apply below_alloc | apply pw_below_drewN | apply below_drew1 | refine below_set ?_ GE214.out) | exact HB.out))⟩)
       ·skip
        refine goes_ Try.func35 (by kernel_rfl) rfl #[.int .u64 (IntKind.u64.wrap (a0_1))] (by rfl) rfl rfl (by (try simp only [List.map_toArray, List.map_cons, List.map_nil]); first | done | rfl | (simp only [List.length_drop, List.length_take]; rfl)) ?_
        with_reducible refine (rollcallref01_Put.calls k (IntKind.u64.wrap (a0_1)) t218 _ A2.out).mono ?_
        rintro e w26 ⟨rfl, hb⟩
        refine ⟨_, rfl, ?_⟩
        replace BK214 := Aside0.mk (blk_below (bS BK214.out) hb)
        replace HB := Aside0.mk (below_step (by repeat (first | (with_reducible first | exact HB.out | apply below_alloc | apply pw_below_drewN | apply below_drew1 | refine below_set ?_ GE214.out) | exact HB.out)) hb)
        (try clear hb)
        (try clear hb2)
        (try clear hk)
        (try clear hi)
        refine hK.out _ _ ⟨(blk_cell BK214.out 0).trans rfl, (blk_cell BK214.out 1).trans rfl, (blk_cell BK214.out 2).trans rfl, (blk_cell BK214.out 3).trans rfl, (blk_cell BK214.out 4).trans rfl, (blk_cell BK214.out 5).trans rfl, (blk_cell BK214.out 6).trans rfl, (blk_cell BK214.out 7).trans rfl, (blk_cell BK214.out 8).trans rfl, (blk_cell BK214.out 9).trans rfl⟩ (fun hHeld => ?_)
        clear hK K
        refine norm_ (a' := ?_) ?_ ?_
        rotate_left
        ·show Act.put _ (some 19) _ = _
         simp only [Act.put, List.setIfInBounds_toArray, List.set_cons_zero, List.set_cons_succ, i64_w, i32_w]
         rfl
        refine one_ (i := 3) (N := some 14) #[true, true, true, true, false, true, true, true, true, false, false] rfl rfl (one_of HT_.out (by kernel_rfl)) (by decide) (fun K hK => ?_)
        refine Kd.R_lit_step (Kd.int .u8) _ 5 ?hg (N := 14) ?hd (xs := ([(a0_0) % 256] : List Int)) (inner := [.int .u8 ((a0_0) % 256)]) (ok := fun _ => True) (okp := fun _ => True) ?hr ?hp (fun _ hk => hk) trivial (Below.refl _ _) (Nat.le_refl _) (by simp) ?_; (case hd => rfl); (case hg => rfl); (case hr => first | (go_simp; done) | (go_simp; rfl)); (case hp => exact (Reps.one (show Kd.M (Kd.int .u8) _ _ _ ((a0_0) % 256) [.int .u8 ((a0_0) % 256)] from rfl) (Reps.none _ _)))
        intro v216 w27 ho28 hb hg_ hnew_
        clear hg_ hnew_
        (first | rw [← Ny215.out] at ho28 | (simp only [Int.reduceToNat] at ho28; rw [← Ny215.out] at ho28))
        have HO217 := Aside0.mk (Kd.R_lower ho28 (below_size (by repeat (first | (with_reducible first | exact HB.out | apply below_alloc | apply pw_below_drewN | apply below_drew1 | refine below_set ?_ GE214.out) | exact HB.out))))
        replace BK214 := Aside0.mk (blk_below (bS BK214.out) hb)
        replace HB := Aside0.mk (below_step (by repeat (first | (with_reducible first | exact HB.out | apply below_alloc | apply pw_below_drewN | apply below_drew1 | refine below_set ?_ GE214.out) | exact HB.out)) hb)
        clear hb ho28
        refine hK.out _ _ ⟨(blk_cell BK214.out 0).trans rfl, (blk_cell BK214.out 1).trans rfl, (blk_cell BK214.out 2).trans rfl, (blk_cell BK214.out 3).trans rfl, (blk_cell BK214.out 4).trans rfl, (blk_cell BK214.out 5).trans rfl, (blk_cell BK214.out 6).trans rfl, (blk_cell BK214.out 7).trans rfl, (blk_cell BK214.out 8).trans rfl, (blk_cell BK214.out 9).trans rfl⟩ (fun hHeld => ?_)
        clear hK K
        refine norm_ (a' := ?_) ?_ ?_
        rotate_left
        ·show Act.put _ (some 14) _ = _
         simp only [Act.put, List.setIfInBounds_toArray, List.set_cons_zero, List.set_cons_succ, i64_w, i32_w]
         rfl
        refine one_ (i := 4) (N := some 15) #[true, true, true, true, true, true, true, true, true, false, false] rfl rfl (one_of HT_.out (by kernel_rfl)) (by decide) (fun K hK => ?_)
        have hcv29 := own_string (P := Try.prog) Try.underlying40 Try.underlying5 Try.underlying9 (Kd.own_of_R HO217.out)
        refine value_ (w1 := ?_) (v := ?_) (by rfl) rfl ?_ ?_
        rotate_left 2
        ·go_simp
         constructor
         ·rfl
         ·rfl
        clear hcv29
        refine hK.out _ _ ⟨(blk_cell BK214.out 0).trans rfl, (blk_cell BK214.out 1).trans rfl, (blk_cell BK214.out 2).trans rfl, (blk_cell BK214.out 3).trans rfl, (blk_cell BK214.out 4).trans rfl, (blk_cell BK214.out 5).trans rfl, (blk_cell BK214.out 6).trans rfl, (blk_cell BK214.out 7).trans rfl, (blk_cell BK214.out 8).trans rfl, (blk_cell BK214.out 9).trans rfl⟩ (fun hHeld => ?_)
        clear hK K
        refine norm_ (a' := ?_) ?_ ?_
        rotate_left
        ·show Act.put _ (some 15) _ = _
         simp only [Act.put, List.setIfInBounds_toArray, List.set_cons_zero, List.set_cons_succ, i64_w, i32_w]
         rfl
        exact norm_ (by simp only [putAll, Act.put, List.setIfInBounds_toArray, List.set_cons_zero, List.set_cons_succ]) (hCont (v216) _ ⟨hHeld, (rS HO217.out), (bS BK214.out), (by repeat (first | (with_reducible first | exact HB.out | apply below_alloc | apply pw_below_drewN | apply below_drew1 | refine below_set ?_ GE214.out) | exact HB.out))⟩)
      rintro v216 w30 ⟨hS_, h0_, h1_, h2_⟩
      have HO217 : Aside0 (Kd.R (Kd.int .u8) 5 w30 w.heap.size (fun _ => True) v216 y215) := ⟨h0_⟩
      replace BK214 : Aside0 (w30.heap[gb214]? = some (.cells #[.int .i64 a0_0, .int .i64 a0_1, .bool false, .string a0_3, .int .i64 a0_4, .int .i64 a0_5, .int .i64 a0_6, .string a0_7, .int .u64 a0_8, .slice A0_9 l0_9.length c0_9] 27 (0, 0))) := ⟨h1_⟩
      replace HB : Aside0 (Below w.heap.size w w30) := ⟨h2_⟩
      clear h0_ h1_ h2_
      have hHeld : w30.cell? ⟨gb214, 0, none⟩ = some (.int .i64 a0_0) ∧ w30.cell? ⟨gb214, 1, none⟩ = some (.int .i64 a0_1) ∧ w30.cell? ⟨gb214, 2, none⟩ = some (.bool false) ∧ w30.cell? ⟨gb214, 3, none⟩ = some (.string a0_3) ∧ w30.cell? ⟨gb214, 4, none⟩ = some (.int .i64 a0_4) ∧ w30.cell? ⟨gb214, 5, none⟩ = some (.int .i64 a0_5) ∧ w30.cell? ⟨gb214, 6, none⟩ = some (.int .i64 a0_6) ∧ w30.cell? ⟨gb214, 7, none⟩ = some (.string a0_7) ∧ w30.cell? ⟨gb214, 8, none⟩ = some (.int .u64 a0_8) ∧ w30.cell? ⟨gb214, 9, none⟩ = some (.slice A0_9 l0_9.length c0_9) := hS_
      refine norm_ (a' := ?_) ?_ ?_
      rotate_left
      ·simp only [putAll, Act.put, List.setIfInBounds_toArray, List.set_cons_zero, List.set_cons_succ]
       rfl
      refine pure_ (i := 9) (N := some 20) (v := ?_) (a' := ?_) #[true, true, true, true, true, true, true, true, true, true, false] rfl rfl (any_of HT_.out (by kernel_rfl)) (fun _ _ _ h => h) (Or.inl ⟨by rfl, ?_⟩) ?_ ?_
      rotate_left
      ·intro w'
       go_simp
       with_reducible rfl
      rotate_left
      ·simp only [Act.put, List.setIfInBounds_toArray, List.set_cons_zero, List.set_cons_succ, i64_w, i32_w]
       rfl
      refine pure_ (i := 10) (N := some 3) (v := ?_) (a' := ?_) #[true, true, true, true, true, true, true, true, true, true, true] rfl rfl (any_of HT_.out (by kernel_rfl)) (fun _ _ _ h => h) (Or.inl ⟨by rfl, ?_⟩) ?_ ?_
      rotate_left
      ·intro w'
       go_simp
       with_reducible rfl
      rotate_left
      ·simp only [Act.put, List.setIfInBounds_toArray, List.set_cons_zero, List.set_cons_succ, i64_w, i32_w]
       rfl
      refine done_ (done_of HT_.out (by kernel_rfl)) ?_
      have hcz31_0 : w30.cell? ⟨gb214, 0, none⟩ = some (.int .i64 a0_0) := (blk_cell BK214.out 0).trans rfl
      have hcz31_1 : w30.cell? ⟨gb214, 1, none⟩ = some (.int .i64 a0_1) := (blk_cell BK214.out 1).trans rfl
      have hcz31_2 : w30.cell? ⟨gb214, 2, none⟩ = some (.bool false) := (blk_cell BK214.out 2).trans rfl
      have hcz31_3 : w30.cell? ⟨gb214, 3, none⟩ = some (.string a0_3) := (blk_cell BK214.out 3).trans rfl
      have hcz31_4 : w30.cell? ⟨gb214, 4, none⟩ = some (.int .i64 a0_4) := (blk_cell BK214.out 4).trans rfl
      have hcz31_5 : w30.cell? ⟨gb214, 5, none⟩ = some (.int .i64 a0_5) := (blk_cell BK214.out 5).trans rfl
      have hcz31_6 : w30.cell? ⟨gb214, 6, none⟩ = some (.int .i64 a0_6) := (blk_cell BK214.out 6).trans rfl
      have hcz31_7 : w30.cell? ⟨gb214, 7, none⟩ = some (.string a0_7) := (blk_cell BK214.out 7).trans rfl
      have hcz31_8 : w30.cell? ⟨gb214, 8, none⟩ = some (.int .u64 a0_8) := (blk_cell BK214.out 8).trans rfl
      have hcz31_9 : w30.cell? ⟨gb214, 9, none⟩ = some (.slice A0_9 l0_9.length c0_9) := (blk_cell BK214.out 9).trans rfl
      have hfz31_0 := blk_frozen BK214.out 0
      have hfz31_1 := blk_frozen BK214.out 1
      have hfz31_2 := blk_frozen BK214.out 2
      have hfz31_3 := blk_frozen BK214.out 3
      have hfz31_4 := blk_frozen BK214.out 4
      have hfz31_5 := blk_frozen BK214.out 5
      have hfz31_6 := blk_frozen BK214.out 6
      have hfz31_7 := blk_frozen BK214.out 7
      have hfz31_8 := blk_frozen BK214.out 8
      have hfz31_9 := blk_frozen BK214.out 9
      try go_wp2_with (first | ((with_reducible refine gate_callee (f := 36) rfl ?_); refine goesL_ (some 28) rfl rfl Try.func36 (by kernel_rfl) rfl #[.string a0_3] rfl (by (try simp only [List.map_toArray, List.map_cons, List.map_nil]); first | done | rfl | (simp only [List.length_drop, List.length_take]; rfl)) ?_; (with_reducible refine (rollcallref03_Put.calls k a0_3 t219 t220 _ A5.out).mono ?_); rintro e w32 ⟨rfl, hb⟩; refine ⟨_, rfl, ?_⟩; replace HO217 := Aside0.mk (Kd.R_below (rS HO217.out) hb); replace BK214 := Aside0.mk (blk_below (bS BK214.out) hb); replace HB := Aside0.mk (below_step (hS HB.out) hb); (try clear hb); (try clear hb2); (try clear hk); (try clear hi); have hcz33_0 : w32.cell? ⟨gb214, 0, none⟩ = some (.int .i64 a0_0) := (blk_cell BK214.out 0).trans rfl; have hcz33_1 : w32.cell? ⟨gb214, 1, none⟩ = some (.int .i64 a0_1) := (blk_cell BK214.out 1).trans rfl; have hcz33_2 : w32.cell? ⟨gb214, 2, none⟩ = some (.bool false) := (blk_cell BK214.out 2).trans rfl; have hcz33_3 : w32.cell? ⟨gb214, 3, none⟩ = some (.string a0_3) := (blk_cell BK214.out 3).trans rfl; have hcz33_4 : w32.cell? ⟨gb214, 4, none⟩ = some (.int .i64 a0_4) := (blk_cell BK214.out 4).trans rfl; have hcz33_5 : w32.cell? ⟨gb214, 5, none⟩ = some (.int .i64 a0_5) := (blk_cell BK214.out 5).trans rfl; have hcz33_6 : w32.cell? ⟨gb214, 6, none⟩ = some (.int .i64 a0_6) := (blk_cell BK214.out 6).trans rfl; have hcz33_7 : w32.cell? ⟨gb214, 7, none⟩ = some (.string a0_7) := (blk_cell BK214.out 7).trans rfl; have hcz33_8 : w32.cell? ⟨gb214, 8, none⟩ = some (.int .u64 a0_8) := (blk_cell BK214.out 8).trans rfl; have hcz33_9 : w32.cell? ⟨gb214, 9, none⟩ = some (.slice A0_9 l0_9.length c0_9) := (blk_cell BK214.out 9).trans rfl; have hfz33_0 := blk_frozen BK214.out 0; have hfz33_1 := blk_frozen BK214.out 1; have hfz33_2 := blk_frozen BK214.out 2; have hfz33_3 := blk_frozen BK214.out 3; have hfz33_4 := blk_frozen BK214.out 4; have hfz33_5 := blk_frozen BK214.out 5; have hfz33_6 := blk_frozen BK214.out 6; have hfz33_7 := blk_frozen BK214.out 7; have hfz33_8 := blk_frozen BK214.out 8; have hfz33_9 := blk_frozen BK214.out 9))
      go_ret
      exact ⟨by first | rfl | (simp [errW_none, errW_some] <;> rfl) | (simp [*, errW_none, errW_some] <;> rfl), by repeat (first | (with_reducible first | exact HB.out | apply below_alloc | apply pw_below_drewN | apply below_drew1 | refine below_set ?_ GE214.out) | exact HB.out)⟩
     ·rw [if_neg c23] at H
      exact absurd H (by simp)
    ·rw [if_neg c22] at H
     exact absurd H (by simp)
  ·rw [if_neg c4] at H
   have c4b0 : (a0_0 == 1) = false := beq_eq_false_iff_ne.mpr c4
   have c4b1 : (a0_0 != 1) = true := bne_iff_ne.mpr c4
   by_cases c34 : a0_0 = 2
   ·rw [if_pos c34] at H
    have c34b0 : (a0_0 == 2) = true := beq_iff_eq.mpr c34
    have c34b1 : (a0_0 != 2) = false := bne_eq_false_iff_eq.mpr c34
    clear c34
    have H' := Aside0.mk H
    clear H
    go_enter Try.func26, Try.ntmps26
    try go_wp2_with (first | ((with_reducible refine gate_dst (N := 1) rfl ?_); refine box_event ?hg (N := 1) ?hd (cs := #[.int .i64 a0_0, .int .i64 a0_1, .bool a0_2, .string a0_3, .int .i64 a0_4, .int .i64 a0_5, .int .i64 a0_6, .string a0_7, .int .u64 a0_8, .slice A0_9 l0_9.length c0_9]) (t := 27) ?hr ?_; (case hd => rfl); (case hg => rfl); (case hr => first | (go_simp; done) | (go_simp; rfl)); intro gb214 hg w35 hbox hb; have BK214 := Aside0.mk (hbox); have GW214 := Aside0.mk ((by rw [hg]; exact (below_size (hS HB.out)) : w.heap.size ≤ gb214)); have GE214 := Aside0.mk ((by rw [hg]; exact (below_size (hS HB.out)) : w.heap.size ≤ gb214)); replace HB := Aside0.mk (below_step (hS HB.out) hb); clear hb hbox hg))
    replace BK214 := Aside0.mk (blk_drew BK214.out)
    replace HB := Aside0.mk (below_drew1 HB.out)
    refine start_ (n := 11) (S := fun w' => w'.cell? ⟨gb214, 0, none⟩ = some (.int .i64 a0_0) ∧ w'.cell? ⟨gb214, 1, none⟩ = some (.int .i64 a0_1) ∧ w'.cell? ⟨gb214, 2, none⟩ = some (.bool a0_2) ∧ w'.cell? ⟨gb214, 3, none⟩ = some (.string a0_3) ∧ w'.cell? ⟨gb214, 4, none⟩ = some (.int .i64 a0_4) ∧ w'.cell? ⟨gb214, 5, none⟩ = some (.int .i64 a0_5) ∧ w'.cell? ⟨gb214, 6, none⟩ = some (.int .i64 a0_6) ∧ w'.cell? ⟨gb214, 7, none⟩ = some (.string a0_7) ∧ w'.cell? ⟨gb214, 8, none⟩ = some (.int .u64 a0_8) ∧ w'.cell? ⟨gb214, 9, none⟩ = some (.slice A0_9 l0_9.length c0_9)) (ds := []) #[false, false, false, false, false, false, false, false, false, false, false] (by kernel_rfl) rfl rfl ⟨(blk_cell BK214.out 0).trans rfl, (blk_cell BK214.out 1).trans rfl, (blk_cell BK214.out 2).trans rfl, (blk_cell BK214.out 3).trans rfl, (blk_cell BK214.out 4).trans rfl, (blk_cell BK214.out 5).trans rfl, (blk_cell BK214.out 6).trans rfl, (blk_cell BK214.out 7).trans rfl, (blk_cell BK214.out 8).trans rfl, (blk_cell BK214.out 9).trans rfl⟩ (fun hHeld => ?_); refine with_tabW rollcallref06_plain.tab1 rollcallref06_plain.bits1 (fun HT_ HW_ => ?_)
    generalize w35.drew = w36 at BK214 HB hHeld ⊢
    refine pure_ (i := 0) (N := some 11) (v := ?_) (a' := ?_) #[true, false, false, false, false, false, false, false, false, false, false] rfl rfl (any_of HT_.out (by kernel_rfl)) (fun _ _ _ h => h) (Or.inl ⟨by rfl, ?_⟩) ?_ ?_
    rotate_left
    ·intro w'
     go_simp
     with_reducible rfl
    rotate_left
    ·simp only [Act.put, List.setIfInBounds_toArray, List.set_cons_zero, List.set_cons_succ, i64_w, i32_w]
     rfl
    refine pure_ (i := 5) (N := some 16) (v := ?_) (a' := ?_) #[true, false, false, false, false, true, false, false, false, false, false] rfl rfl (any_of HT_.out (by kernel_rfl)) (fun _ _ _ h => h) (Or.inl ⟨by rfl, ?_⟩) ?_ ?_
    rotate_left
    ·intro w'
     go_simp
     with_reducible rfl
    rotate_left
    ·simp only [Act.put, List.setIfInBounds_toArray, List.set_cons_zero, List.set_cons_succ, i64_w, i32_w]
     rfl
    refine take_ (i := 1) (N := some 12) (v := ?_) (a' := ?_) #[true, true, false, false, false, true, false, false, false, false, false] rfl rfl (take_ofW HT_.out HW_.out (by kernel_rfl)) (fun _ _ _ h => h) (Or.inl ⟨by rfl, ?_⟩) hHeld ?_ ?_
    rotate_left
    ·rintro w' ⟨s0, s1, s2, s3, s4, s5, s6, s7, s8, s9⟩
     go_simp
     with_reducible rfl
    rotate_left
    ·simp only [Act.put, List.setIfInBounds_toArray, List.set_cons_zero, List.set_cons_succ, i64_w, i32_w]
     rfl
    refine pure_ (i := 2) (N := some 13) (v := ?_) (a' := ?_) #[true, true, true, false, false, true, false, false, false, false, false] rfl rfl (any_of HT_.out (by kernel_rfl)) (fun _ _ _ h => h) (Or.inl ⟨by rfl, ?_⟩) ?_ ?_
    rotate_left
    ·intro w'
     go_simp
     with_reducible rfl
    rotate_left
    ·simp only [Act.put, List.setIfInBounds_toArray, List.set_cons_zero, List.set_cons_succ, i64_w, i32_w]
     rfl
    refine take_ (i := 6) (N := some 17) (v := ?_) (a' := ?_) #[true, true, true, false, false, true, true, false, false, false, false] rfl rfl (take_ofW HT_.out HW_.out (by kernel_rfl)) (fun _ _ _ h => h) (Or.inl ⟨by rfl, ?_⟩) hHeld ?_ ?_
    rotate_left
    ·rintro w' ⟨s0, s1, s2, s3, s4, s5, s6, s7, s8, s9⟩
     go_simp
     with_reducible rfl
    rotate_left
    ·simp only [Act.put, List.setIfInBounds_toArray, List.set_cons_zero, List.set_cons_succ, i64_w, i32_w]
     rfl
    refine pure_ (i := 7) (N := some 18) (v := ?_) (a' := ?_) #[true, true, true, false, false, true, true, true, false, false, false] rfl rfl (any_of HT_.out (by kernel_rfl)) (fun _ _ _ h => h) (Or.inl ⟨by rfl, ?_⟩) ?_ ?_
    rotate_left
    ·intro w'
     go_simp
     with_reducible rfl
    rotate_left
    ·simp only [Act.put, List.setIfInBounds_toArray, List.set_cons_zero, List.set_cons_succ, i64_w, i32_w]
     rfl
    refine join_ (σ := Value) 2 #[true, true, true, true, true, true, true, true, true, false, false] (fun s_ => [(14, s_), (15, .string (strOfNums y215)), (19, .string t218)]) (fun s_ w' => (w'.cell? ⟨gb214, 0, none⟩ = some (.int .i64 a0_0) ∧ w'.cell? ⟨gb214, 1, none⟩ = some (.int .i64 a0_1) ∧ w'.cell? ⟨gb214, 2, none⟩ = some (.bool a0_2) ∧ w'.cell? ⟨gb214, 3, none⟩ = some (.string a0_3) ∧ w'.cell? ⟨gb214, 4, none⟩ = some (.int .i64 a0_4) ∧ w'.cell? ⟨gb214, 5, none⟩ = some (.int .i64 a0_5) ∧ w'.cell? ⟨gb214, 6, none⟩ = some (.int .i64 a0_6) ∧ w'.cell? ⟨gb214, 7, none⟩ = some (.string a0_7) ∧ w'.cell? ⟨gb214, 8, none⟩ = some (.int .u64 a0_8) ∧ w'.cell? ⟨gb214, 9, none⟩ = some (.slice A0_9 l0_9.length c0_9)) ∧ (Kd.R (Kd.int .u8) 5 w' w.heap.size (fun _ => True) s_ y215) ∧ (w'.heap[gb214]? = some (.cells #[.int .i64 a0_0, .int .i64 a0_1, .bool a0_2, .string a0_3, .int .i64 a0_4, .int .i64 a0_5, .int .i64 a0_6, .string a0_7, .int .u64 a0_8, .slice A0_9 l0_9.length c0_9] 27 (0, 0))) ∧ (Below w.heap.size w w')) ?_ ?_
    rotate_left
    ·intro hCont
     refine two_ (i := 3) (j := 8) (Ni := some 14) (Nj := some 19) #[true, true, true, true, false, true, true, true, false, false, false] #[true, true, true, false, false, true, true, true, true, false, false] rfl rfl rfl rfl (two_of HT_.out (by kernel_rfl)) (by decide) (by decide) (fun K hK => ?_) (fun K hK => ?_)
     ·skip
      refine Kd.R_lit_step (Kd.int .u8) _ 5 ?hg (N := 14) ?hd (xs := ([(a0_0) % 256] : List Int)) (inner := [.int .u8 ((a0_0) % 256)]) (ok := fun _ => True) (okp := fun _ => True) ?hr ?hp (fun _ hk => hk) trivial (Below.refl _ _) (Nat.le_refl _) (by simp) ?_; (case hd => rfl); (case hg => rfl); (case hr => first | (go_simp; done) | (go_simp; rfl)); (case hp => exact (Reps.one (show Kd.M (Kd.int .u8) _ _ _ ((a0_0) % 256) [.int .u8 ((a0_0) % 256)] from rfl) (Reps.none _ _)))
      intro v216 w37 ho38 hb hg_ hnew_
      clear hg_ hnew_
      (first | rw [← Ny215.out] at ho38 | (simp only [Int.reduceToNat] at ho38; rw [← Ny215.out] at ho38))
      have HO217 := Aside0.mk (Kd.R_lower ho38 (below_size (by repeat (first | (with_reducible first | exact HB.out | apply below_alloc | apply pw_below_drewN | apply below_drew1 | refine below_set ?_ GE214.out) | exact HB.out))))
      replace BK214 := Aside0.mk (blk_below (bS BK214.out) hb)
      replace HB := Aside0.mk (below_step (by repeat (first | (with_reducible first | exact HB.out | apply below_alloc | apply pw_below_drewN | apply below_drew1 | refine below_set ?_ GE214.out) | exact HB.out)) hb)
      clear hb ho38
      refine hK.out _ _ ⟨(blk_cell BK214.out 0).trans rfl, (blk_cell BK214.out 1).trans rfl, (blk_cell BK214.out 2).trans rfl, (blk_cell BK214.out 3).trans rfl, (blk_cell BK214.out 4).trans rfl, (blk_cell BK214.out 5).trans rfl, (blk_cell BK214.out 6).trans rfl, (blk_cell BK214.out 7).trans rfl, (blk_cell BK214.out 8).trans rfl, (blk_cell BK214.out 9).trans rfl⟩ (fun hHeld => ?_)
      clear hK K
      refine norm_ (a' := ?_) ?_ ?_
      rotate_left
      ·show Act.put _ (some 14) _ = _
       simp only [Act.put, List.setIfInBounds_toArray, List.set_cons_zero, List.set_cons_succ, i64_w, i32_w]
       rfl
      refine two_ (i := 4) (j := 8) (Ni := some 15) (Nj := some 19) #[true, true, true, true, true, true, true, true, false, false, false] #[true, true, true, true, false, true, true, true, true, false, false] rfl rfl rfl rfl (two_of HT_.out (by kernel_rfl)) (by decide) (by decide) (fun K hK => ?_) (fun K hK => ?_)
      ·skip
       have hcv39 := own_string (P := Try.prog) Try.underlying40 Try.underlying5 Try.underlying9 (Kd.own_of_R HO217.out)
       refine value_ (w1 := ?_) (v := ?_) (by rfl) rfl ?_ ?_
       rotate_left 2
       ·go_simp
        constructor
        ·rfl
        ·rfl
       clear hcv39
       refine hK.out _ _ ⟨(blk_cell BK214.out 0).trans rfl, (blk_cell BK214.out 1).trans rfl, (blk_cell BK214.out 2).trans rfl, (blk_cell BK214.out 3).trans rfl, (blk_cell BK214.out 4).trans rfl, (blk_cell BK214.out 5).trans rfl, (blk_cell BK214.out 6).trans rfl, (blk_cell BK214.out 7).trans rfl, (blk_cell BK214.out 8).trans rfl, (blk_cell BK214.out 9).trans rfl⟩ (fun hHeld => ?_)
       clear hK K
       refine norm_ (a' := ?_) ?_ ?_
       rotate_left
       ·show Act.put _ (some 15) _ = _
        simp only [Act.put, List.setIfInBounds_toArray, List.set_cons_zero, List.set_cons_succ, i64_w, i32_w]
        rfl
       refine one_ (i := 8) (N := some 19) #[true, true, true, true, true, true, true, true, true, false, false] rfl rfl (one_of HT_.out (by kernel_rfl)) (by decide) (fun K hK => ?_)
       refine goes_ Try.func35 (by kernel_rfl) rfl #[.int .u64 (IntKind.u64.wrap (a0_1))] (by rfl) rfl rfl (by (try simp only [List.map_toArray, List.map_cons, List.map_nil]); first | done | rfl | (simp only [List.length_drop, List.length_take]; rfl)) ?_
       with_reducible refine (rollcallref01_Put.calls k (IntKind.u64.wrap (a0_1)) t218 _ A2.out).mono ?_
       rintro e w40 ⟨rfl, hb⟩
       refine ⟨_, rfl, ?_⟩
       replace HO217 := Aside0.mk (Kd.R_below (rS HO217.out) hb)
       replace BK214 := Aside0.mk (blk_below (bS BK214.out) hb)
       replace HB := Aside0.mk (below_step (by repeat (first | (with_reducible first | exact HB.out | apply below_alloc | apply pw_below_drewN | apply below_drew1 | refine below_set ?_ GE214.out) | exact HB.out)) hb)
       (try clear hb)
       (try clear hb2)
       (try clear hk)
       (try clear hi)
       refine hK.out _ _ ⟨(blk_cell BK214.out 0).trans rfl, (blk_cell BK214.out 1).trans rfl, (blk_cell BK214.out 2).trans rfl, (blk_cell BK214.out 3).trans rfl, (blk_cell BK214.out 4).trans rfl, (blk_cell BK214.out 5).trans rfl, (blk_cell BK214.out 6).trans rfl, (blk_cell BK214.out 7).trans rfl, (blk_cell BK214.out 8).trans rfl, (blk_cell BK214.out 9).trans rfl⟩ (fun hHeld => ?_)
       clear hK K
       refine norm_ (a' := ?_) ?_ ?_
       rotate_left
       ·show Act.put _ (some 19) _ = _
        simp only [Act.put, List.setIfInBounds_toArray, List.set_cons_zero, List.set_cons_succ, i64_w, i32_w]
        rfl
       exact norm_ (by simp only [putAll, Act.put, List.setIfInBounds_toArray, List.set_cons_zero, List.set_cons_succ]) (hCont (v216) _ ⟨hHeld, (rS HO217.out), (bS BK214.out), (by repeat (first | (with_reducible first | exact HB.out | apply below_alloc | apply pw_below_drewN | apply below_drew1 | refine below_set ?_ GE214.out) | exact HB.out))⟩)
      ·skip
       refine goes_ Try.func35 (by kernel_rfl) rfl #[.int .u64 (IntKind.u64.wrap (a0_1))] (by rfl) rfl rfl (by (try simp only [List.map_toArray, List.map_cons, List.map_nil]); first | done | rfl | (simp only [List.length_drop, List.length_take]; rfl)) ?_
       with_reducible refine (rollcallref01_Put.calls k (IntKind.u64.wrap (a0_1)) t218 _ A2.out).mono ?_
       rintro e w39 ⟨rfl, hb⟩
       refine ⟨_, rfl, ?_⟩
       replace HO217 := Aside0.mk (Kd.R_below (rS HO217.out) hb)
       replace BK214 := Aside0.mk (blk_below (bS BK214.out) hb)
       replace HB := Aside0.mk (below_step (by repeat (first | (with_reducible first | exact HB.out | apply below_alloc | apply pw_below_drewN | apply below_drew1 | refine below_set ?_ GE214.out) | exact HB.out)) hb)
       (try clear hb)
       (try clear hb2)
       (try clear hk)
       (try clear hi)
       refine hK.out _ _ ⟨(blk_cell BK214.out 0).trans rfl, (blk_cell BK214.out 1).trans rfl, (blk_cell BK214.out 2).trans rfl, (blk_cell BK214.out 3).trans rfl, (blk_cell BK214.out 4).trans rfl, (blk_cell BK214.out 5).trans rfl, (blk_cell BK214.out 6).trans rfl, (blk_cell BK214.out 7).trans rfl, (blk_cell BK214.out 8).trans rfl, (blk_cell BK214.out 9).trans rfl⟩ (fun hHeld => ?_)
       clear hK K
       refine norm_ (a' := ?_) ?_ ?_
       rotate_left
       ·show Act.put _ (some 19) _ = _
        simp only [Act.put, List.setIfInBounds_toArray, List.set_cons_zero, List.set_cons_succ, i64_w, i32_w]
        rfl
       refine one_ (i := 4) (N := some 15) #[true, true, true, true, true, true, true, true, true, false, false] rfl rfl (one_of HT_.out (by kernel_rfl)) (by decide) (fun K hK => ?_)
       have hcv40 := own_string (P := Try.prog) Try.underlying40 Try.underlying5 Try.underlying9 (Kd.own_of_R HO217.out)
       refine value_ (w1 := ?_) (v := ?_) (by rfl) rfl ?_ ?_
       rotate_left 2
       ·go_simp
        constructor
        ·rfl
        ·rfl
       clear hcv40
       refine hK.out _ _ ⟨(blk_cell BK214.out 0).trans rfl, (blk_cell BK214.out 1).trans rfl, (blk_cell BK214.out 2).trans rfl, (blk_cell BK214.out 3).trans rfl, (blk_cell BK214.out 4).trans rfl, (blk_cell BK214.out 5).trans rfl, (blk_cell BK214.out 6).trans rfl, (blk_cell BK214.out 7).trans rfl, (blk_cell BK214.out 8).trans rfl, (blk_cell BK214.out 9).trans rfl⟩ (fun hHeld => ?_)
       clear hK K
       refine norm_ (a' := ?_) ?_ ?_
       rotate_left
       ·show Act.put _ (some 15) _ = _
        simp only [Act.put, List.setIfInBounds_toArray, List.set_cons_zero, List.set_cons_succ, i64_w, i32_w]
        rfl
       exact norm_ (by simp only [putAll, Act.put, List.setIfInBounds_toArray, List.set_cons_zero, List.set_cons_succ]) (hCont (v216) _ ⟨hHeld, (rS HO217.out), (bS BK214.out), (by repeat (first | (with_reducible first | exact HB.out | apply below_alloc | apply pw_below_drewN | apply below_drew1 | refine below_set ?_ GE214.out) | exact HB.out))⟩)
     ·skip
      refine goes_ Try.func35 (by kernel_rfl) rfl #[.int .u64 (IntKind.u64.wrap (a0_1))] (by rfl) rfl rfl (by (try simp only [List.map_toArray, List.map_cons, List.map_nil]); first | done | rfl | (simp only [List.length_drop, List.length_take]; rfl)) ?_
      with_reducible refine (rollcallref01_Put.calls k (IntKind.u64.wrap (a0_1)) t218 _ A2.out).mono ?_
      rintro e w37 ⟨rfl, hb⟩
      refine ⟨_, rfl, ?_⟩
      replace BK214 := Aside0.mk (blk_below (bS BK214.out) hb)
      replace HB := Aside0.mk (below_step (by repeat (first | (with_reducible first | exact HB.out | apply below_alloc | apply pw_below_drewN | apply below_drew1 | refine below_set ?_ GE214.out) | exact HB.out)) hb)
      (try clear hb)
      (try clear hb2)
      (try clear hk)
      (try clear hi)
      refine hK.out _ _ ⟨(blk_cell BK214.out 0).trans rfl, (blk_cell BK214.out 1).trans rfl, (blk_cell BK214.out 2).trans rfl, (blk_cell BK214.out 3).trans rfl, (blk_cell BK214.out 4).trans rfl, (blk_cell BK214.out 5).trans rfl, (blk_cell BK214.out 6).trans rfl, (blk_cell BK214.out 7).trans rfl, (blk_cell BK214.out 8).trans rfl, (blk_cell BK214.out 9).trans rfl⟩ (fun hHeld => ?_)
      clear hK K
      refine norm_ (a' := ?_) ?_ ?_
      rotate_left
      ·show Act.put _ (some 19) _ = _
       simp only [Act.put, List.setIfInBounds_toArray, List.set_cons_zero, List.set_cons_succ, i64_w, i32_w]
       rfl
      refine one_ (i := 3) (N := some 14) #[true, true, true, true, false, true, true, true, true, false, false] rfl rfl (one_of HT_.out (by kernel_rfl)) (by decide) (fun K hK => ?_)
      refine Kd.R_lit_step (Kd.int .u8) _ 5 ?hg (N := 14) ?hd (xs := ([(a0_0) % 256] : List Int)) (inner := [.int .u8 ((a0_0) % 256)]) (ok := fun _ => True) (okp := fun _ => True) ?hr ?hp (fun _ hk => hk) trivial (Below.refl _ _) (Nat.le_refl _) (by simp) ?_; (case hd => rfl); (case hg => rfl); (case hr => first | (go_simp; done) | (go_simp; rfl)); (case hp => exact (Reps.one (show Kd.M (Kd.int .u8) _ _ _ ((a0_0) % 256) [.int .u8 ((a0_0) % 256)] from rfl) (Reps.none _ _)))
      intro v216 w38 ho39 hb hg_ hnew_
      clear hg_ hnew_
      (first | rw [← Ny215.out] at ho39 | (simp only [Int.reduceToNat] at ho39; rw [← Ny215.out] at ho39))
      have HO217 := Aside0.mk (Kd.R_lower ho39 (below_size (by repeat (first | (with_reducible first | exact HB.out | apply below_alloc | apply pw_below_drewN | apply below_drew1 | refine below_set ?_ GE214.out) | exact HB.out))))
      replace BK214 := Aside0.mk (blk_below (bS BK214.out) hb)
      replace HB := Aside0.mk (below_step (by repeat (first | (with_reducible first | exact HB.out | apply below_alloc | apply pw_below_drewN | apply below_drew1 | refine below_set ?_ GE214.out) | exact HB.out)) hb)
      clear hb ho39
      refine hK.out _ _ ⟨(blk_cell BK214.out 0).trans rfl, (blk_cell BK214.out 1).trans rfl, (blk_cell BK214.out 2).trans rfl, (blk_cell BK214.out 3).trans rfl, (blk_cell BK214.out 4).trans rfl, (blk_cell BK214.out 5).trans rfl, (blk_cell BK214.out 6).trans rfl, (blk_cell BK214.out 7).trans rfl, (blk_cell BK214.out 8).trans rfl, (blk_cell BK214.out 9).trans rfl⟩ (fun hHeld => ?_)
      clear hK K
      refine norm_ (a' := ?_) ?_ ?_
      rotate_left
      ·show Act.put _ (some 14) _ = _
       simp only [Act.put, List.setIfInBounds_toArray, List.set_cons_zero, List.set_cons_succ, i64_w, i32_w]
       rfl
      refine one_ (i := 4) (N := some 15) #[true, true, true, true, true, true, true, true, true, false, false] rfl rfl (one_of HT_.out (by kernel_rfl)) (by decide) (fun K hK => ?_)
      have hcv40 := own_string (P := Try.prog) Try.underlying40 Try.underlying5 Try.underlying9 (Kd.own_of_R HO217.out)
      refine value_ (w1 := ?_) (v := ?_) (by rfl) rfl ?_ ?_
      rotate_left 2
      ·go_simp
       constructor
       ·rfl
       ·rfl
      clear hcv40
      refine hK.out _ _ ⟨(blk_cell BK214.out 0).trans rfl, (blk_cell BK214.out 1).trans rfl, (blk_cell BK214.out 2).trans rfl, (blk_cell BK214.out 3).trans rfl, (blk_cell BK214.out 4).trans rfl, (blk_cell BK214.out 5).trans rfl, (blk_cell BK214.out 6).trans rfl, (blk_cell BK214.out 7).trans rfl, (blk_cell BK214.out 8).trans rfl, (blk_cell BK214.out 9).trans rfl⟩ (fun hHeld => ?_)
      clear hK K
      refine norm_ (a' := ?_) ?_ ?_
      rotate_left
      ·show Act.put _ (some 15) _ = _
       simp only [Act.put, List.setIfInBounds_toArray, List.set_cons_zero, List.set_cons_succ, i64_w, i32_w]
       rfl
      exact norm_ (by simp only [putAll, Act.put, List.setIfInBounds_toArray, List.set_cons_zero, List.set_cons_succ]) (hCont (v216) _ ⟨hHeld, (rS HO217.out), (bS BK214.out), (by repeat (first | (with_reducible first | exact HB.out | apply below_alloc | apply pw_below_drewN | apply below_drew1 | refine below_set ?_ GE214.out) | exact HB.out))⟩)
    rintro v216 w41 ⟨hS_, h0_, h1_, h2_⟩
    have HO217 : Aside0 (Kd.R (Kd.int .u8) 5 w41 w.heap.size (fun _ => True) v216 y215) := ⟨h0_⟩
    replace BK214 : Aside0 (w41.heap[gb214]? = some (.cells #[.int .i64 a0_0, .int .i64 a0_1, .bool a0_2, .string a0_3, .int .i64 a0_4, .int .i64 a0_5, .int .i64 a0_6, .string a0_7, .int .u64 a0_8, .slice A0_9 l0_9.length c0_9] 27 (0, 0))) := ⟨h1_⟩
    replace HB : Aside0 (Below w.heap.size w w41) := ⟨h2_⟩
    clear h0_ h1_ h2_
    have hHeld : w41.cell? ⟨gb214, 0, none⟩ = some (.int .i64 a0_0) ∧ w41.cell? ⟨gb214, 1, none⟩ = some (.int .i64 a0_1) ∧ w41.cell? ⟨gb214, 2, none⟩ = some (.bool a0_2) ∧ w41.cell? ⟨gb214, 3, none⟩ = some (.string a0_3) ∧ w41.cell? ⟨gb214, 4, none⟩ = some (.int .i64 a0_4) ∧ w41.cell? ⟨gb214, 5, none⟩ = some (.int .i64 a0_5) ∧ w41.cell? ⟨gb214, 6, none⟩ = some (.int .i64 a0_6) ∧ w41.cell? ⟨gb214, 7, none⟩ = some (.string a0_7) ∧ w41.cell? ⟨gb214, 8, none⟩ = some (.int .u64 a0_8) ∧ w41.cell? ⟨gb214, 9, none⟩ = some (.slice A0_9 l0_9.length c0_9) := hS_
    refine norm_ (a' := ?_) ?_ ?_
    rotate_left
    ·simp only [putAll, Act.put, List.setIfInBounds_toArray, List.set_cons_zero, List.set_cons_succ]
     rfl
    refine pure_ (i := 9) (N := some 20) (v := ?_) (a' := ?_) #[true, true, true, true, true, true, true, true, true, true, false] rfl rfl (any_of HT_.out (by kernel_rfl)) (fun _ _ _ h => h) (Or.inl ⟨by rfl, ?_⟩) ?_ ?_
    rotate_left
    ·intro w'
     go_simp
     with_reducible rfl
    rotate_left
    ·simp only [Act.put, List.setIfInBounds_toArray, List.set_cons_zero, List.set_cons_succ, i64_w, i32_w]
     rfl
    refine pure_ (i := 10) (N := some 3) (v := ?_) (a' := ?_) #[true, true, true, true, true, true, true, true, true, true, true] rfl rfl (any_of HT_.out (by kernel_rfl)) (fun _ _ _ h => h) (Or.inl ⟨by rfl, ?_⟩) ?_ ?_
    rotate_left
    ·intro w'
     go_simp
     with_reducible rfl
    rotate_left
    ·simp only [Act.put, List.setIfInBounds_toArray, List.set_cons_zero, List.set_cons_succ, i64_w, i32_w]
     rfl
    refine done_ (done_of HT_.out (by kernel_rfl)) ?_
    have hcz42_0 : w41.cell? ⟨gb214, 0, none⟩ = some (.int .i64 a0_0) := (blk_cell BK214.out 0).trans rfl
    have hcz42_1 : w41.cell? ⟨gb214, 1, none⟩ = some (.int .i64 a0_1) := (blk_cell BK214.out 1).trans rfl
    have hcz42_2 : w41.cell? ⟨gb214, 2, none⟩ = some (.bool a0_2) := (blk_cell BK214.out 2).trans rfl
    have hcz42_3 : w41.cell? ⟨gb214, 3, none⟩ = some (.string a0_3) := (blk_cell BK214.out 3).trans rfl
    have hcz42_4 : w41.cell? ⟨gb214, 4, none⟩ = some (.int .i64 a0_4) := (blk_cell BK214.out 4).trans rfl
    have hcz42_5 : w41.cell? ⟨gb214, 5, none⟩ = some (.int .i64 a0_5) := (blk_cell BK214.out 5).trans rfl
    have hcz42_6 : w41.cell? ⟨gb214, 6, none⟩ = some (.int .i64 a0_6) := (blk_cell BK214.out 6).trans rfl
    have hcz42_7 : w41.cell? ⟨gb214, 7, none⟩ = some (.string a0_7) := (blk_cell BK214.out 7).trans rfl
    have hcz42_8 : w41.cell? ⟨gb214, 8, none⟩ = some (.int .u64 a0_8) := (blk_cell BK214.out 8).trans rfl
    have hcz42_9 : w41.cell? ⟨gb214, 9, none⟩ = some (.slice A0_9 l0_9.length c0_9) := (blk_cell BK214.out 9).trans rfl
    have hfz42_0 := blk_frozen BK214.out 0
    have hfz42_1 := blk_frozen BK214.out 1
    have hfz42_2 := blk_frozen BK214.out 2
    have hfz42_3 := blk_frozen BK214.out 3
    have hfz42_4 := blk_frozen BK214.out 4
    have hfz42_5 := blk_frozen BK214.out 5
    have hfz42_6 := blk_frozen BK214.out 6
    have hfz42_7 := blk_frozen BK214.out 7
    have hfz42_8 := blk_frozen BK214.out 8
    have hfz42_9 := blk_frozen BK214.out 9
    try go_wp2
    go_loopg [3, 8] k (fun kq v3 v8 w' => ∃ (x3_1 : ByteArray) (x8_1 : Int), v3 = .string x3_1 ∧ v8 = .int .i64 x8_1 ∧ Aside0 (rollcallref06_plain.l0 kq x3_1 x8_1 a0_0 a0_1 a0_2 a0_3 a0_4 a0_5 a0_6 a0_7 a0_8 l0_9 = some r) ∧ Aside0 (kq ≤ k) ∧ Aside0 (w'.heap[gb214]? = some (.cells #[.int .i64 a0_0, .int .i64 a0_1, .bool a0_2, .string a0_3, .int .i64 a0_4, .int .i64 a0_5, .int .i64 a0_6, .string a0_7, .int .u64 a0_8, (.slice A0_9 l0_9.length c0_9)] 27 (0, 0))) ∧ Aside0 (Below w.heap.size w w'))
    case atStart => exact ⟨((strOfNums y215) ++ t218), (56), (by first | rfl | (simp; done) | (simp [*]; done)), (by first | rfl | (simp; done) | (simp [*]; done)), H', ⟨Nat.le_refl _⟩, ⟨bS BK214.out⟩, ⟨by repeat (first | (with_reducible first | exact HB.out | apply below_alloc | apply pw_below_drewN | apply below_drew1 | refine below_set ?_ GE214.out) | exact HB.out)⟩⟩
    case round =>
     clear H'
     try clear c2
     try clear p2
     try clear hcv2
     try clear c3
     try clear hcv3
     try clear c4
     try clear c4b0
     try clear c4b1
     try clear hcv4
     try clear c22
     try clear c23
     try clear c23b0
     try clear c23b2
     try clear c26
     try clear hcv28
     try clear hcv29
     try clear c34
     try clear c34b0
     try clear c34b1
     try clear c35
     try clear c36
     try clear hcv39
     try clear hcv40
     try clear hcz31_0
     try clear hcz31_1
     try clear hcz31_2
     try clear hcz31_3
     try clear hcz31_4
     try clear hcz31_5
     try clear hcz31_6
     try clear hcz31_7
     try clear hcz31_8
     try clear hcz31_9
     try clear hcz33_0
     try clear hcz33_1
     try clear hcz33_2
     try clear hcz33_3
     try clear hcz33_4
     try clear hcz33_5
     try clear hcz33_6
     try clear hcz33_7
     try clear hcz33_8
     try clear hcz33_9
     try clear hcz42_0
     try clear hcz42_1
     try clear hcz42_2
     try clear hcz42_3
     try clear hcz42_4
     try clear hcz42_5
     try clear hcz42_6
     try clear hcz42_7
     try clear hcz42_8
     try clear hcz42_9
     try clear hfz31_0
     try clear hfz31_1
     try clear hfz31_2
     try clear hfz31_3
     try clear hfz31_4
     try clear hfz31_5
     try clear hfz31_6
     try clear hfz31_7
     try clear hfz31_8
     try clear hfz31_9
     try clear hfz33_0
     try clear hfz33_1
     try clear hfz33_2
     try clear hfz33_3
     try clear hfz33_4
     try clear hfz33_5
     try clear hfz33_6
     try clear hfz33_7
     try clear hfz33_8
     try clear hfz33_9
     try clear hfz42_0
     try clear hfz42_1
     try clear hfz42_2
     try clear hfz42_3
     try clear hfz42_4
     try clear hfz42_5
     try clear hfz42_6
     try clear hfz42_7
     try clear hfz42_8
     try clear hfz42_9
     obtain ⟨x3_1, x8_1, rfl, rfl, HA, HK1, BK214, HB⟩ := hrel
     cases gk with
     | zero => exact absurd HA.out (by simp [rollcallref06_plain.l0])
     | succ k1 =>
      have H := HA.out
      clear HA
      simp only [rollcallref06_plain.l0] at H
      by_cases c43 : x8_1 ≥ 0
      ·rw [if_pos c43] at H
       have c43b0 : decide (0 ≤ x8_1) = true := decide_eq_true c43
       clear c43
       obtain ⟨ji44, hji44⟩ : ∃ j_ : Int, (IntKind.u64.wrap (x8_1)) = j_ := ⟨_, rfl⟩
       replace H : (if 0 ≤ (ji44) then ((some (([(shr .u64 a0_8 (ji44)) % 256] : List Int) : List Int)).bind fun y223 => (if x3_1.size + (strOfNums y223).size ≤ 9223372036854775807 then (rollcallref06_plain.l0 k1 (x3_1 ++ (strOfNums y223)) (wrap64 (x8_1 - 8)) a0_0 a0_1 a0_2 a0_3 a0_4 a0_5 a0_6 a0_7 a0_8 l0_9) else (none))) else (none)) = some r := by first | (rw [hji44] at H; exact H) | (simp only [hji44] at H ⊢; exact H)
       by_cases c45 : 0 ≤ (ji44)
       ·rw [if_pos c45] at H
        have c45b0 := eq_true c45
        have c45b1 : decide (0 ≤ (ji44)) = true := decide_eq_true c45
        clear c45
        obtain ⟨ji46, hji46⟩ : ∃ j_ : Int, (shr .u64 a0_8 (ji44)) = j_ := ⟨_, rfl⟩
        replace H : ((some (([(ji46) % 256] : List Int) : List Int)).bind fun y223 => (if x3_1.size + (strOfNums y223).size ≤ 9223372036854775807 then (rollcallref06_plain.l0 k1 (x3_1 ++ (strOfNums y223)) (wrap64 (x8_1 - 8)) a0_0 a0_1 a0_2 a0_3 a0_4 a0_5 a0_6 a0_7 a0_8 l0_9) else (none))) = some r := by first | (rw [hji46] at H; exact H) | (simp only [hji46] at H ⊢; exact H)
        have hji46_ : (a0_8 / 2 ^ min (ji44).toNat 64) = ji46 := hji46
        have hji46z : (ji44) ≤ 64 → (a0_8 / 2 ^ (ji44).toNat) = ji46 := shr_small hji46
        obtain ⟨y223, hy223⟩ : ∃ y_ : List Int, y_ = (([(ji46) % 256] : List Int)) := ⟨_, rfl⟩
        replace H : (if x3_1.size + (strOfNums y223).size ≤ 9223372036854775807 then (rollcallref06_plain.l0 k1 (x3_1 ++ (strOfNums y223)) (wrap64 (x8_1 - 8)) a0_0 a0_1 a0_2 a0_3 a0_4 a0_5 a0_6 a0_7 a0_8 l0_9) else (none)) = some r := by first | (rw [hy223]; with_reducible exact H) | (have H2_ := (Option.bind_some _ _).symm.trans H; rw [hy223]; with_reducible exact H2_) | (have H2_ := (Option.bind_some _ _).symm.trans H; with_reducible exact H2_) | with_reducible exact H | (rw [hy223]; exact H) | exact H
        have Ny223 := Aside0.mk hy223
        clear hy223
        by_cases c47 : x3_1.size + (strOfNums y223).size ≤ 9223372036854775807
        ·rw [if_pos c47] at H
         have c47b0 := eq_true c47
         have c47b1 : decide (x3_1.size + (strOfNums y223).size ≤ 9223372036854775807) = true := decide_eq_true c47
         try have c47b2 : (9223372036854775807 < x3_1.size + (strOfNums y223).size) = False := eq_false (Nat.not_lt.2 c47)
         (try (have c47b3 := c47b0; simp only [ByteArray.size_append] at c47b3))
         (try (have c47b4 := c47b2; simp only [ByteArray.size_append] at c47b4))
         (try (have c47b5 := c47b3; simp only [show (⟨#[1]⟩ : ByteArray).size = 1 from rfl, show (⟨#[0]⟩ : ByteArray).size = 1 from rfl] at c47b5))
         (try (have c47b6 := c47b4; simp only [show (⟨#[1]⟩ : ByteArray).size = 1 from rfl, show (⟨#[0]⟩ : ByteArray).size = 1 from rfl] at c47b6))
         clear c47
         have H' := Aside0.mk H
         clear H
         have hcz48_0 : wr.cell? ⟨gb214, 0, none⟩ = some (.int .i64 a0_0) := (blk_cell BK214.out 0).trans rfl
         have hcz48_1 : wr.cell? ⟨gb214, 1, none⟩ = some (.int .i64 a0_1) := (blk_cell BK214.out 1).trans rfl
         have hcz48_2 : wr.cell? ⟨gb214, 2, none⟩ = some (.bool a0_2) := (blk_cell BK214.out 2).trans rfl
         have hcz48_3 : wr.cell? ⟨gb214, 3, none⟩ = some (.string a0_3) := (blk_cell BK214.out 3).trans rfl
         have hcz48_4 : wr.cell? ⟨gb214, 4, none⟩ = some (.int .i64 a0_4) := (blk_cell BK214.out 4).trans rfl
         have hcz48_5 : wr.cell? ⟨gb214, 5, none⟩ = some (.int .i64 a0_5) := (blk_cell BK214.out 5).trans rfl
         have hcz48_6 : wr.cell? ⟨gb214, 6, none⟩ = some (.int .i64 a0_6) := (blk_cell BK214.out 6).trans rfl
         have hcz48_7 : wr.cell? ⟨gb214, 7, none⟩ = some (.string a0_7) := (blk_cell BK214.out 7).trans rfl
         have hcz48_8 : wr.cell? ⟨gb214, 8, none⟩ = some (.int .u64 a0_8) := (blk_cell BK214.out 8).trans rfl
         have hcz48_9 : wr.cell? ⟨gb214, 9, none⟩ = some (.slice A0_9 l0_9.length c0_9) := (blk_cell BK214.out 9).trans rfl
         have hfz48_0 := blk_frozen BK214.out 0
         have hfz48_1 := blk_frozen BK214.out 1
         have hfz48_2 := blk_frozen BK214.out 2
         have hfz48_3 := blk_frozen BK214.out 3
         have hfz48_4 := blk_frozen BK214.out 4
         have hfz48_5 := blk_frozen BK214.out 5
         have hfz48_6 := blk_frozen BK214.out 6
         have hfz48_7 := blk_frozen BK214.out 7
         have hfz48_8 := blk_frozen BK214.out 8
         have hfz48_9 := blk_frozen BK214.out 9
         go_wp2_with (first | ((with_reducible refine gate_dst (N := 63) rfl ?_); refine Kd.R_lit (Kd.int .u8) _ 5 ?hg (N := 63) ?hd (xs := ([(ji46) % 256] : List Int)) (inner := [.int .u8 ((ji46) % 256)]) (ok := fun _ => True) (okp := fun _ => True) ?hr ?hp (fun _ hk => hk) trivial (Below.refl _ _) (Nat.le_refl _) (by simp) ?_; (case hd => rfl); (case hg => rfl); (case hr => first | (go_simp; done) | (go_simp; rfl)); (case hp => exact (Reps.one (show Kd.M (Kd.int .u8) _ _ _ ((ji46) % 256) [.int .u8 ((ji46) % 256)] from rfl) (Reps.none _ _))); intro v224 w49 ho50 hb hg_ hnew_; clear hg_ hnew_; (first | rw [← Ny223.out] at ho50 | (simp only [Int.reduceToNat] at ho50; rw [← Ny223.out] at ho50)); have HO225 := Aside0.mk (Kd.R_lower ho50 (below_size (hS HB.out))); replace BK214 := Aside0.mk (blk_below (bS BK214.out) hb); replace HB := Aside0.mk (below_step (hS HB.out) hb); clear hb ho50; have hcv51 := own_string (P := Try.prog) Try.underlying40 Try.underlying5 Try.underlying9 (Kd.own_of_R HO225.out)))
         go_roundg k1
         case measure => have := HK1.out; omega
         case rel => exact ⟨(x3_1 ++ (strOfNums y223)), (wrap64 (x8_1 - 8)), (by first | rfl | (simp; done) | (simp [*]; done)), (by first | rfl | (simp; done) | (simp [*]; done)), H', ⟨by have := HK1.out; omega⟩, ⟨bS BK214.out⟩, ⟨by repeat (first | (with_reducible first | exact HB.out | apply below_alloc | apply pw_below_drewN | apply below_drew1 | refine below_set ?_ GE214.out) | exact HB.out)⟩⟩
        ·rw [if_neg c47] at H
         exact absurd H (by simp)
       ·rw [if_neg c45] at H
        exact absurd H (by simp)
      ·rw [if_neg c43] at H
       have c43b0 : decide (0 ≤ x8_1) = false := decide_eq_false c43
       clear c43
       obtain rfl := Option.some.inj H
       go_wp2
       go_ret
       exact ⟨by first | rfl | (simp [errW_none, errW_some] <;> rfl) | (simp [*, errW_none, errW_some] <;> rfl), by repeat (first | (with_reducible first | exact HB.out | apply below_alloc | apply pw_below_drewN | apply below_drew1 | refine below_set ?_ GE214.out) | exact HB.out)⟩
   ·rw [if_neg c34] at H
    have c34b0 : (a0_0 == 2) = false := beq_eq_false_iff_ne.mpr c34
    have c34b1 : (a0_0 != 2) = true := bne_iff_ne.mpr c34
    by_cases c52 : a0_0 = 3
    ·rw [if_pos c52] at H
     have c52b0 : (a0_0 == 3) = true := beq_iff_eq.mpr c52
     have c52b1 : (a0_0 != 3) = false := bne_eq_false_iff_eq.mpr c52
     clear c52
     replace H := Option.bind_eq_some_iff.mp H
     obtain ⟨⟨t226, t227⟩, A530, H⟩ := H
     replace H : (if ((strOfNums y215) ++ t218).size + t226.size ≤ 9223372036854775807 then (some (((strOfNums y215) ++ t218) ++ t226)) else (none)) = some r := H
     have A53 := Aside0.mk A530
     clear A530
     by_cases c54 : ((strOfNums y215) ++ t218).size + t226.size ≤ 9223372036854775807
     ·rw [if_pos c54] at H
      have c54b0 := eq_true c54
      have c54b1 : decide (((strOfNums y215) ++ t218).size + t226.size ≤ 9223372036854775807) = true := decide_eq_true c54
      try have c54b2 : (9223372036854775807 < ((strOfNums y215) ++ t218).size + t226.size) = False := eq_false (Nat.not_lt.2 c54)
      (try (have c54b3 := c54b0; simp only [ByteArray.size_append] at c54b3))
      (try (have c54b4 := c54b2; simp only [ByteArray.size_append] at c54b4))
      (try (have c54b5 := c54b3; simp only [show (⟨#[1]⟩ : ByteArray).size = 1 from rfl, show (⟨#[0]⟩ : ByteArray).size = 1 from rfl] at c54b5))
      (try (have c54b6 := c54b4; simp only [show (⟨#[1]⟩ : ByteArray).size = 1 from rfl, show (⟨#[0]⟩ : ByteArray).size = 1 from rfl] at c54b6))
      clear c54
      obtain rfl := Option.some.inj H
      go_enter Try.func26, Try.ntmps26
      try go_wp2_with (first | ((with_reducible refine gate_dst (N := 1) rfl ?_); refine box_event ?hg (N := 1) ?hd (cs := #[.int .i64 a0_0, .int .i64 a0_1, .bool a0_2, .string a0_3, .int .i64 a0_4, .int .i64 a0_5, .int .i64 a0_6, .string a0_7, .int .u64 a0_8, .slice A0_9 l0_9.length c0_9]) (t := 27) ?hr ?_; (case hd => rfl); (case hg => rfl); (case hr => first | (go_simp; done) | (go_simp; rfl)); intro gb214 hg w55 hbox hb; have BK214 := Aside0.mk (hbox); have GW214 := Aside0.mk ((by rw [hg]; exact (below_size (hS HB.out)) : w.heap.size ≤ gb214)); have GE214 := Aside0.mk ((by rw [hg]; exact (below_size (hS HB.out)) : w.heap.size ≤ gb214)); replace HB := Aside0.mk (below_step (hS HB.out) hb); clear hb hbox hg))
      replace BK214 := Aside0.mk (blk_drew BK214.out)
      replace HB := Aside0.mk (below_drew1 HB.out)
      refine start_ (n := 11) (S := fun w' => w'.cell? ⟨gb214, 0, none⟩ = some (.int .i64 a0_0) ∧ w'.cell? ⟨gb214, 1, none⟩ = some (.int .i64 a0_1) ∧ w'.cell? ⟨gb214, 2, none⟩ = some (.bool a0_2) ∧ w'.cell? ⟨gb214, 3, none⟩ = some (.string a0_3) ∧ w'.cell? ⟨gb214, 4, none⟩ = some (.int .i64 a0_4) ∧ w'.cell? ⟨gb214, 5, none⟩ = some (.int .i64 a0_5) ∧ w'.cell? ⟨gb214, 6, none⟩ = some (.int .i64 a0_6) ∧ w'.cell? ⟨gb214, 7, none⟩ = some (.string a0_7) ∧ w'.cell? ⟨gb214, 8, none⟩ = some (.int .u64 a0_8) ∧ w'.cell? ⟨gb214, 9, none⟩ = some (.slice A0_9 l0_9.length c0_9)) (ds := []) #[false, false, false, false, false, false, false, false, false, false, false] (by kernel_rfl) rfl rfl ⟨(blk_cell BK214.out 0).trans rfl, (blk_cell BK214.out 1).trans rfl, (blk_cell BK214.out 2).trans rfl, (blk_cell BK214.out 3).trans rfl, (blk_cell BK214.out 4).trans rfl, (blk_cell BK214.out 5).trans rfl, (blk_cell BK214.out 6).trans rfl, (blk_cell BK214.out 7).trans rfl, (blk_cell BK214.out 8).trans rfl, (blk_cell BK214.out 9).trans rfl⟩ (fun hHeld => ?_); refine with_tabW rollcallref06_plain.tab1 rollcallref06_plain.bits1 (fun HT_ HW_ => ?_)
      generalize w55.drew = w56 at BK214 HB hHeld ⊢
      refine pure_ (i := 0) (N := some 11) (v := ?_) (a' := ?_) #[true, false, false, false, false, false, false, false, false, false, false] rfl rfl (any_of HT_.out (by kernel_rfl)) (fun _ _ _ h => h) (Or.inl ⟨by rfl, ?_⟩) ?_ ?_
      rotate_left
      ·intro w'
       go_simp
       with_reducible rfl
      rotate_left
      ·simp only [Act.put, List.setIfInBounds_toArray, List.set_cons_zero, List.set_cons_succ, i64_w, i32_w]
       rfl
      refine pure_ (i := 5) (N := some 16) (v := ?_) (a' := ?_) #[true, false, false, false, false, true, false, false, false, false, false] rfl rfl (any_of HT_.out (by kernel_rfl)) (fun _ _ _ h => h) (Or.inl ⟨by rfl, ?_⟩) ?_ ?_
      rotate_left
      ·intro w'
       go_simp
       with_reducible rfl
      rotate_left
      ·simp only [Act.put, List.setIfInBounds_toArray, List.set_cons_zero, List.set_cons_succ, i64_w, i32_w]
       rfl
      refine take_ (i := 1) (N := some 12) (v := ?_) (a' := ?_) #[true, true, false, false, false, true, false, false, false, false, false] rfl rfl (take_ofW HT_.out HW_.out (by kernel_rfl)) (fun _ _ _ h => h) (Or.inl ⟨by rfl, ?_⟩) hHeld ?_ ?_
      rotate_left
      ·rintro w' ⟨s0, s1, s2, s3, s4, s5, s6, s7, s8, s9⟩
       go_simp
       with_reducible rfl
      rotate_left
      ·simp only [Act.put, List.setIfInBounds_toArray, List.set_cons_zero, List.set_cons_succ, i64_w, i32_w]
       rfl
      refine pure_ (i := 2) (N := some 13) (v := ?_) (a' := ?_) #[true, true, true, false, false, true, false, false, false, false, false] rfl rfl (any_of HT_.out (by kernel_rfl)) (fun _ _ _ h => h) (Or.inl ⟨by rfl, ?_⟩) ?_ ?_
      rotate_left
      ·intro w'
       go_simp
       with_reducible rfl
      rotate_left
      ·simp only [Act.put, List.setIfInBounds_toArray, List.set_cons_zero, List.set_cons_succ, i64_w, i32_w]
       rfl
      refine take_ (i := 6) (N := some 17) (v := ?_) (a' := ?_) #[true, true, true, false, false, true, true, false, false, false, false] rfl rfl (take_ofW HT_.out HW_.out (by kernel_rfl)) (fun _ _ _ h => h) (Or.inl ⟨by rfl, ?_⟩) hHeld ?_ ?_
      rotate_left
      ·rintro w' ⟨s0, s1, s2, s3, s4, s5, s6, s7, s8, s9⟩
       go_simp
       with_reducible rfl
      rotate_left
      ·simp only [Act.put, List.setIfInBounds_toArray, List.set_cons_zero, List.set_cons_succ, i64_w, i32_w]
       rfl
      refine pure_ (i := 7) (N := some 18) (v := ?_) (a' := ?_) #[true, true, true, false, false, true, true, true, false, false, false] rfl rfl (any_of HT_.out (by kernel_rfl)) (fun _ _ _ h => h) (Or.inl ⟨by rfl, ?_⟩) ?_ ?_
      rotate_left
      ·intro w'
       go_simp
       with_reducible rfl
      rotate_left
      ·simp only [Act.put, List.setIfInBounds_toArray, List.set_cons_zero, List.set_cons_succ, i64_w, i32_w]
       rfl
      refine join_ (σ := Value) 2 #[true, true, true, true, true, true, true, true, true, false, false] (fun s_ => [(14, s_), (15, .string (strOfNums y215)), (19, .string t218)]) (fun s_ w' => (w'.cell? ⟨gb214, 0, none⟩ = some (.int .i64 a0_0) ∧ w'.cell? ⟨gb214, 1, none⟩ = some (.int .i64 a0_1) ∧ w'.cell? ⟨gb214, 2, none⟩ = some (.bool a0_2) ∧ w'.cell? ⟨gb214, 3, none⟩ = some (.string a0_3) ∧ w'.cell? ⟨gb214, 4, none⟩ = some (.int .i64 a0_4) ∧ w'.cell? ⟨gb214, 5, none⟩ = some (.int .i64 a0_5) ∧ w'.cell? ⟨gb214, 6, none⟩ = some (.int .i64 a0_6) ∧ w'.cell? ⟨gb214, 7, none⟩ = some (.string a0_7) ∧ w'.cell? ⟨gb214, 8, none⟩ = some (.int .u64 a0_8) ∧ w'.cell? ⟨gb214, 9, none⟩ = some (.slice A0_9 l0_9.length c0_9)) ∧ (Kd.R (Kd.int .u8) 5 w' w.heap.size (fun _ => True) s_ y215) ∧ (w'.heap[gb214]? = some (.cells #[.int .i64 a0_0, .int .i64 a0_1, .bool a0_2, .string a0_3, .int .i64 a0_4, .int .i64 a0_5, .int .i64 a0_6, .string a0_7, .int .u64 a0_8, .slice A0_9 l0_9.length c0_9] 27 (0, 0))) ∧ (Below w.heap.size w w')) ?_ ?_
      rotate_left
      ·intro hCont
       refine two_ (i := 3) (j := 8) (Ni := some 14) (Nj := some 19) #[true, true, true, true, false, true, true, true, false, false, false] #[true, true, true, false, false, true, true, true, true, false, false] rfl rfl rfl rfl (two_of HT_.out (by kernel_rfl)) (by decide) (by decide) (fun K hK => ?_) (fun K hK => ?_)
       ·skip
        refine Kd.R_lit_step (Kd.int .u8) _ 5 ?hg (N := 14) ?hd (xs := ([(a0_0) % 256] : List Int)) (inner := [.int .u8 ((a0_0) % 256)]) (ok := fun _ => True) (okp := fun _ => True) ?hr ?hp (fun _ hk => hk) trivial (Below.refl _ _) (Nat.le_refl _) (by simp) ?_; (case hd => rfl); (case hg => rfl); (case hr => first | (go_simp; done) | (go_simp; rfl)); (case hp => exact (Reps.one (show Kd.M (Kd.int .u8) _ _ _ ((a0_0) % 256) [.int .u8 ((a0_0) % 256)] from rfl) (Reps.none _ _)))
        intro v216 w57 ho58 hb hg_ hnew_
        clear hg_ hnew_
        (first | rw [← Ny215.out] at ho58 | (simp only [Int.reduceToNat] at ho58; rw [← Ny215.out] at ho58))
        have HO217 := Aside0.mk (Kd.R_lower ho58 (below_size (by repeat (first | (with_reducible first | exact HB.out | apply below_alloc | apply pw_below_drewN | apply below_drew1 | refine below_set ?_ GE214.out) | exact HB.out))))
        replace BK214 := Aside0.mk (blk_below (bS BK214.out) hb)
        replace HB := Aside0.mk (below_step (by repeat (first | (with_reducible first | exact HB.out | apply below_alloc | apply pw_below_drewN | apply below_drew1 | refine below_set ?_ GE214.out) | exact HB.out)) hb)
        clear hb ho58
        refine hK.out _ _ ⟨(blk_cell BK214.out 0).trans rfl, (blk_cell BK214.out 1).trans rfl, (blk_cell BK214.out 2).trans rfl, (blk_cell BK214.out 3).trans rfl, (blk_cell BK214.out 4).trans rfl, (blk_cell BK214.out 5).trans rfl, (blk_cell BK214.out 6).trans rfl, (blk_cell BK214.out 7).trans rfl, (blk_cell BK214.out 8).trans rfl, (blk_cell BK214.out 9).trans rfl⟩ (fun hHeld => ?_)
        clear hK K
        refine norm_ (a' := ?_) ?_ ?_
        rotate_left
        ·show Act.put _ (some 14) _ = _
         simp only [Act.put, List.setIfInBounds_toArray, List.set_cons_zero, List.set_cons_succ, i64_w, i32_w]
         rfl
        refine two_ (i := 4) (j := 8) (Ni := some 15) (Nj := some 19) #[true, true, true, true, true, true, true, true, false, false, false] #[true, true, true, true, false, true, true, true, true, false, false] rfl rfl rfl rfl (two_of HT_.out (by kernel_rfl)) (by decide) (by decide) (fun K hK => ?_) (fun K hK => ?_)
        ·skip
         have hcv59 := own_string (P := Try.prog) Try.underlying40 Try.underlying5 Try.underlying9 (Kd.own_of_R HO217.out)
         refine value_ (w1 := ?_) (v := ?_) (by rfl) rfl ?_ ?_
         rotate_left 2
         ·go_simp
          constructor
          ·rfl
          ·rfl
         clear hcv59
         refine hK.out _ _ ⟨(blk_cell BK214.out 0).trans rfl, (blk_cell BK214.out 1).trans rfl, (blk_cell BK214.out 2).trans rfl, (blk_cell BK214.out 3).trans rfl, (blk_cell BK214.out 4).trans rfl, (blk_cell BK214.out 5).trans rfl, (blk_cell BK214.out 6).trans rfl, (blk_cell BK214.out 7).trans rfl, (blk_cell BK214.out 8).trans rfl, (blk_cell BK214.out 9).trans rfl⟩ (fun hHeld => ?_)
         clear hK K
         refine norm_ (a' := ?_) ?_ ?_
         rotate_left
         ·show Act.put _ (some 15) _ = _
          simp only [Act.put, List.setIfInBounds_toArray, List.set_cons_zero, List.set_cons_succ, i64_w, i32_w]
          rfl
         refine one_ (i := 8) (N := some 19) #[true, true, true, true, true, true, true, true, true, false, false] rfl rfl (one_of HT_.out (by kernel_rfl)) (by decide) (fun K hK => ?_)
         refine goes_ Try.func35 (by kernel_rfl) rfl #[.int .u64 (IntKind.u64.wrap (a0_1))] (by rfl) rfl rfl (by (try simp only [List.map_toArray, List.map_cons, List.map_nil]); first | done | rfl | (simp only [List.length_drop, List.length_take]; rfl)) ?_
         with_reducible refine (rollcallref01_Put.calls k (IntKind.u64.wrap (a0_1)) t218 _ A2.out).mono ?_
         rintro e w60 ⟨rfl, hb⟩
         refine ⟨_, rfl, ?_⟩
         replace HO217 := Aside0.mk (Kd.R_below (rS HO217.out) hb)
         replace BK214 := Aside0.mk (blk_below (bS BK214.out) hb)
         replace HB := Aside0.mk (below_step (by repeat (first | (with_reducible first | exact HB.out | apply below_alloc | apply pw_below_drewN | apply below_drew1 | refine below_set ?_ GE214.out) | exact HB.out)) hb)
         (try clear hb)
         (try clear hb2)
         (try clear hk)
         (try clear hi)
         refine hK.out _ _ ⟨(blk_cell BK214.out 0).trans rfl, (blk_cell BK214.out 1).trans rfl, (blk_cell BK214.out 2).trans rfl, (blk_cell BK214.out 3).trans rfl, (blk_cell BK214.out 4).trans rfl, (blk_cell BK214.out 5).trans rfl, (blk_cell BK214.out 6).trans rfl, (blk_cell BK214.out 7).trans rfl, (blk_cell BK214.out 8).trans rfl, (blk_cell BK214.out 9).trans rfl⟩ (fun hHeld => ?_)
         clear hK K
         refine norm_ (a' := ?_) ?_ ?_
         rotate_left
         ·show Act.put _ (some 19) _ = _
          simp only [Act.put, List.setIfInBounds_toArray, List.set_cons_zero, List.set_cons_succ, i64_w, i32_w]
          rfl
         exact norm_ (by simp only [putAll, Act.put, List.setIfInBounds_toArray, List.set_cons_zero, List.set_cons_succ]) (hCont (v216) _ ⟨hHeld, (rS HO217.out), (bS BK214.out), (by repeat (first | (with_reducible first | exact HB.out | apply below_alloc | apply pw_below_drewN | apply below_drew1 | refine below_set ?_ GE214.out) | exact HB.out))⟩)
        ·skip
         refine goes_ Try.func35 (by kernel_rfl) rfl #[.int .u64 (IntKind.u64.wrap (a0_1))] (by rfl) rfl rfl (by (try simp only [List.map_toArray, List.map_cons, List.map_nil]); first | done | rfl | (simp only [List.length_drop, List.length_take]; rfl)) ?_
         with_reducible refine (rollcallref01_Put.calls k (IntKind.u64.wrap (a0_1)) t218 _ A2.out).mono ?_
         rintro e w59 ⟨rfl, hb⟩
         refine ⟨_, rfl, ?_⟩
         replace HO217 := Aside0.mk (Kd.R_below (rS HO217.out) hb)
         replace BK214 := Aside0.mk (blk_below (bS BK214.out) hb)
         replace HB := Aside0.mk (below_step (by repeat (first | (with_reducible first | exact HB.out | apply below_alloc | apply pw_below_drewN | apply below_drew1 | refine below_set ?_ GE214.out) | exact HB.out)) hb)
         (try clear hb)
         (try clear hb2)
         (try clear hk)
         (try clear hi)
         refine hK.out _ _ ⟨(blk_cell BK214.out 0).trans rfl, (blk_cell BK214.out 1).trans rfl, (blk_cell BK214.out 2).trans rfl, (blk_cell BK214.out 3).trans rfl, (blk_cell BK214.out 4).trans rfl, (blk_cell BK214.out 5).trans rfl, (blk_cell BK214.out 6).trans rfl, (blk_cell BK214.out 7).trans rfl, (blk_cell BK214.out 8).trans rfl, (blk_cell BK214.out 9).trans rfl⟩ (fun hHeld => ?_)
         clear hK K
         refine norm_ (a' := ?_) ?_ ?_
         rotate_left
         ·show Act.put _ (some 19) _ = _
          simp only [Act.put, List.setIfInBounds_toArray, List.set_cons_zero, List.set_cons_succ, i64_w, i32_w]
          rfl
         refine one_ (i := 4) (N := some 15) #[true, true, true, true, true, true, true, true, true, false, false] rfl rfl (one_of HT_.out (by kernel_rfl)) (by decide) (fun K hK => ?_)
         have hcv60 := own_string (P := Try.prog) Try.underlying40 Try.underlying5 Try.underlying9 (Kd.own_of_R HO217.out)
         refine value_ (w1 := ?_) (v := ?_) (by rfl) rfl ?_ ?_
         rotate_left 2
         ·go_simp
          constructor
          ·rfl
          ·rfl
         clear hcv60
         refine hK.out _ _ ⟨(blk_cell BK214.out 0).trans rfl, (blk_cell BK214.out 1).trans rfl, (blk_cell BK214.out 2).trans rfl, (blk_cell BK214.out 3).trans rfl, (blk_cell BK214.out 4).trans rfl, (blk_cell BK214.out 5).trans rfl, (blk_cell BK214.out 6).trans rfl, (blk_cell BK214.out 7).trans rfl, (blk_cell BK214.out 8).trans rfl, (blk_cell BK214.out 9).trans rfl⟩ (fun hHeld => ?_)
         clear hK K
         refine norm_ (a' := ?_) ?_ ?_
         rotate_left
         ·show Act.put _ (some 15) _ = _
          simp only [Act.put, List.setIfInBounds_toArray, List.set_cons_zero, List.set_cons_succ, i64_w, i32_w]
          rfl
         exact norm_ (by simp only [putAll, Act.put, List.setIfInBounds_toArray, List.set_cons_zero, List.set_cons_succ]) (hCont (v216) _ ⟨hHeld, (rS HO217.out), (bS BK214.out), (by repeat (first | (with_reducible first | exact HB.out | apply below_alloc | apply pw_below_drewN | apply below_drew1 | refine below_set ?_ GE214.out) | exact HB.out))⟩)
       ·skip
        refine goes_ Try.func35 (by kernel_rfl) rfl #[.int .u64 (IntKind.u64.wrap (a0_1))] (by rfl) rfl rfl (by (try simp only [List.map_toArray, List.map_cons, List.map_nil]); first | done | rfl | (simp only [List.length_drop, List.length_take]; rfl)) ?_
        with_reducible refine (rollcallref01_Put.calls k (IntKind.u64.wrap (a0_1)) t218 _ A2.out).mono ?_
        rintro e w57 ⟨rfl, hb⟩
        refine ⟨_, rfl, ?_⟩
        replace BK214 := Aside0.mk (blk_below (bS BK214.out) hb)
        replace HB := Aside0.mk (below_step (by repeat (first | (with_reducible first | exact HB.out | apply below_alloc | apply pw_below_drewN | apply below_drew1 | refine below_set ?_ GE214.out) | exact HB.out)) hb)
        (try clear hb)
        (try clear hb2)
        (try clear hk)
        (try clear hi)
        refine hK.out _ _ ⟨(blk_cell BK214.out 0).trans rfl, (blk_cell BK214.out 1).trans rfl, (blk_cell BK214.out 2).trans rfl, (blk_cell BK214.out 3).trans rfl, (blk_cell BK214.out 4).trans rfl, (blk_cell BK214.out 5).trans rfl, (blk_cell BK214.out 6).trans rfl, (blk_cell BK214.out 7).trans rfl, (blk_cell BK214.out 8).trans rfl, (blk_cell BK214.out 9).trans rfl⟩ (fun hHeld => ?_)
        clear hK K
        refine norm_ (a' := ?_) ?_ ?_
        rotate_left
        ·show Act.put _ (some 19) _ = _
         simp only [Act.put, List.setIfInBounds_toArray, List.set_cons_zero, List.set_cons_succ, i64_w, i32_w]
         rfl
        refine one_ (i := 3) (N := some 14) #[true, true, true, true, false, true, true, true, true, false, false] rfl rfl (one_of HT_.out (by kernel_rfl)) (by decide) (fun K hK => ?_)
        refine Kd.R_lit_step (Kd.int .u8) _ 5 ?hg (N := 14) ?hd (xs := ([(a0_0) % 256] : List Int)) (inner := [.int .u8 ((a0_0) % 256)]) (ok := fun _ => True) (okp := fun _ => True) ?hr ?hp (fun _ hk => hk) trivial (Below.refl _ _) (Nat.le_refl _) (by simp) ?_; (case hd => rfl); (case hg => rfl); (case hr => first | (go_simp; done) | (go_simp; rfl)); (case hp => exact (Reps.one (show Kd.M (Kd.int .u8) _ _ _ ((a0_0) % 256) [.int .u8 ((a0_0) % 256)] from rfl) (Reps.none _ _)))
        intro v216 w58 ho59 hb hg_ hnew_
        clear hg_ hnew_
        (first | rw [← Ny215.out] at ho59 | (simp only [Int.reduceToNat] at ho59; rw [← Ny215.out] at ho59))
        have HO217 := Aside0.mk (Kd.R_lower ho59 (below_size (by repeat (first | (with_reducible first | exact HB.out | apply below_alloc | apply pw_below_drewN | apply below_drew1 | refine below_set ?_ GE214.out) | exact HB.out))))
        replace BK214 := Aside0.mk (blk_below (bS BK214.out) hb)
        replace HB := Aside0.mk (below_step (by repeat (first | (with_reducible first | exact HB.out | apply below_alloc | apply pw_below_drewN | apply below_drew1 | refine below_set ?_ GE214.out) | exact HB.out)) hb)
        clear hb ho59
        refine hK.out _ _ ⟨(blk_cell BK214.out 0).trans rfl, (blk_cell BK214.out 1).trans rfl, (blk_cell BK214.out 2).trans rfl, (blk_cell BK214.out 3).trans rfl, (blk_cell BK214.out 4).trans rfl, (blk_cell BK214.out 5).trans rfl, (blk_cell BK214.out 6).trans rfl, (blk_cell BK214.out 7).trans rfl, (blk_cell BK214.out 8).trans rfl, (blk_cell BK214.out 9).trans rfl⟩ (fun hHeld => ?_)
        clear hK K
        refine norm_ (a' := ?_) ?_ ?_
        rotate_left
        ·show Act.put _ (some 14) _ = _
         simp only [Act.put, List.setIfInBounds_toArray, List.set_cons_zero, List.set_cons_succ, i64_w, i32_w]
         rfl
        refine one_ (i := 4) (N := some 15) #[true, true, true, true, true, true, true, true, true, false, false] rfl rfl (one_of HT_.out (by kernel_rfl)) (by decide) (fun K hK => ?_)
        have hcv60 := own_string (P := Try.prog) Try.underlying40 Try.underlying5 Try.underlying9 (Kd.own_of_R HO217.out)
        refine value_ (w1 := ?_) (v := ?_) (by rfl) rfl ?_ ?_
        rotate_left 2
        ·go_simp
         constructor
         ·rfl
         ·rfl
        clear hcv60
        refine hK.out _ _ ⟨(blk_cell BK214.out 0).trans rfl, (blk_cell BK214.out 1).trans rfl, (blk_cell BK214.out 2).trans rfl, (blk_cell BK214.out 3).trans rfl, (blk_cell BK214.out 4).trans rfl, (blk_cell BK214.out 5).trans rfl, (blk_cell BK214.out 6).trans rfl, (blk_cell BK214.out 7).trans rfl, (blk_cell BK214.out 8).trans rfl, (blk_cell BK214.out 9).trans rfl⟩ (fun hHeld => ?_)
        clear hK K
        refine norm_ (a' := ?_) ?_ ?_
        rotate_left
        ·show Act.put _ (some 15) _ = _
         simp only [Act.put, List.setIfInBounds_toArray, List.set_cons_zero, List.set_cons_succ, i64_w, i32_w]
         rfl
        exact norm_ (by simp only [putAll, Act.put, List.setIfInBounds_toArray, List.set_cons_zero, List.set_cons_succ]) (hCont (v216) _ ⟨hHeld, (rS HO217.out), (bS BK214.out), (by repeat (first | (with_reducible first | exact HB.out | apply below_alloc | apply pw_below_drewN | apply below_drew1 | refine below_set ?_ GE214.out) | exact HB.out))⟩)
      rintro v216 w61 ⟨hS_, h0_, h1_, h2_⟩
      have HO217 : Aside0 (Kd.R (Kd.int .u8) 5 w61 w.heap.size (fun _ => True) v216 y215) := ⟨h0_⟩
      replace BK214 : Aside0 (w61.heap[gb214]? = some (.cells #[.int .i64 a0_0, .int .i64 a0_1, .bool a0_2, .string a0_3, .int .i64 a0_4, .int .i64 a0_5, .int .i64 a0_6, .string a0_7, .int .u64 a0_8, .slice A0_9 l0_9.length c0_9] 27 (0, 0))) := ⟨h1_⟩
      replace HB : Aside0 (Below w.heap.size w w61) := ⟨h2_⟩
      clear h0_ h1_ h2_
      have hHeld : w61.cell? ⟨gb214, 0, none⟩ = some (.int .i64 a0_0) ∧ w61.cell? ⟨gb214, 1, none⟩ = some (.int .i64 a0_1) ∧ w61.cell? ⟨gb214, 2, none⟩ = some (.bool a0_2) ∧ w61.cell? ⟨gb214, 3, none⟩ = some (.string a0_3) ∧ w61.cell? ⟨gb214, 4, none⟩ = some (.int .i64 a0_4) ∧ w61.cell? ⟨gb214, 5, none⟩ = some (.int .i64 a0_5) ∧ w61.cell? ⟨gb214, 6, none⟩ = some (.int .i64 a0_6) ∧ w61.cell? ⟨gb214, 7, none⟩ = some (.string a0_7) ∧ w61.cell? ⟨gb214, 8, none⟩ = some (.int .u64 a0_8) ∧ w61.cell? ⟨gb214, 9, none⟩ = some (.slice A0_9 l0_9.length c0_9) := hS_
      refine norm_ (a' := ?_) ?_ ?_
      rotate_left
      ·simp only [putAll, Act.put, List.setIfInBounds_toArray, List.set_cons_zero, List.set_cons_succ]
       rfl
      refine pure_ (i := 9) (N := some 20) (v := ?_) (a' := ?_) #[true, true, true, true, true, true, true, true, true, true, false] rfl rfl (any_of HT_.out (by kernel_rfl)) (fun _ _ _ h => h) (Or.inl ⟨by rfl, ?_⟩) ?_ ?_
      rotate_left
      ·intro w'
       go_simp
       with_reducible rfl
      rotate_left
      ·simp only [Act.put, List.setIfInBounds_toArray, List.set_cons_zero, List.set_cons_succ, i64_w, i32_w]
       rfl
      refine pure_ (i := 10) (N := some 3) (v := ?_) (a' := ?_) #[true, true, true, true, true, true, true, true, true, true, true] rfl rfl (any_of HT_.out (by kernel_rfl)) (fun _ _ _ h => h) (Or.inl ⟨by rfl, ?_⟩) ?_ ?_
      rotate_left
      ·intro w'
       go_simp
       with_reducible rfl
      rotate_left
      ·simp only [Act.put, List.setIfInBounds_toArray, List.set_cons_zero, List.set_cons_succ, i64_w, i32_w]
       rfl
      refine done_ (done_of HT_.out (by kernel_rfl)) ?_
      have hcz62_0 : w61.cell? ⟨gb214, 0, none⟩ = some (.int .i64 a0_0) := (blk_cell BK214.out 0).trans rfl
      have hcz62_1 : w61.cell? ⟨gb214, 1, none⟩ = some (.int .i64 a0_1) := (blk_cell BK214.out 1).trans rfl
      have hcz62_2 : w61.cell? ⟨gb214, 2, none⟩ = some (.bool a0_2) := (blk_cell BK214.out 2).trans rfl
      have hcz62_3 : w61.cell? ⟨gb214, 3, none⟩ = some (.string a0_3) := (blk_cell BK214.out 3).trans rfl
      have hcz62_4 : w61.cell? ⟨gb214, 4, none⟩ = some (.int .i64 a0_4) := (blk_cell BK214.out 4).trans rfl
      have hcz62_5 : w61.cell? ⟨gb214, 5, none⟩ = some (.int .i64 a0_5) := (blk_cell BK214.out 5).trans rfl
      have hcz62_6 : w61.cell? ⟨gb214, 6, none⟩ = some (.int .i64 a0_6) := (blk_cell BK214.out 6).trans rfl
      have hcz62_7 : w61.cell? ⟨gb214, 7, none⟩ = some (.string a0_7) := (blk_cell BK214.out 7).trans rfl
      have hcz62_8 : w61.cell? ⟨gb214, 8, none⟩ = some (.int .u64 a0_8) := (blk_cell BK214.out 8).trans rfl
      have hcz62_9 : w61.cell? ⟨gb214, 9, none⟩ = some (.slice A0_9 l0_9.length c0_9) := (blk_cell BK214.out 9).trans rfl
      have hfz62_0 := blk_frozen BK214.out 0
      have hfz62_1 := blk_frozen BK214.out 1
      have hfz62_2 := blk_frozen BK214.out 2
      have hfz62_3 := blk_frozen BK214.out 3
      have hfz62_4 := blk_frozen BK214.out 4
      have hfz62_5 := blk_frozen BK214.out 5
      have hfz62_6 := blk_frozen BK214.out 6
      have hfz62_7 := blk_frozen BK214.out 7
      have hfz62_8 := blk_frozen BK214.out 8
      have hfz62_9 := blk_frozen BK214.out 9
      try go_wp2_with (first | ((with_reducible refine gate_callee (f := 21) rfl ?_); refine goesL_ (some 71) rfl rfl Try.func21 (by kernel_rfl) rfl #[.slice A0_9 l0_9.length c0_9] rfl (by (try simp only [List.map_toArray, List.map_cons, List.map_nil]); first | done | rfl | (simp only [List.length_drop, List.length_take]; rfl)) ?_; (with_reducible refine (rollcallref05_Put.calls k _ _ l0_9 t226 t227 _ ?side1 ?side2 A53.out).mono ?_); (case side1 => repeat (first | exact (Kd.C_below HR0_9.out HB.out) | (with_reducible refine Kd.C_alloc ?_ _) | (with_reducible refine Kd.C_drewN ?_ _) | (with_reducible refine Kd.C_drew ?_))); (case side2 => exact HC0_9.out); rintro e w63 ⟨rfl, hb⟩; refine ⟨_, rfl, ?_⟩; replace HO217 := Aside0.mk (Kd.R_below (rS HO217.out) hb); replace BK214 := Aside0.mk (blk_below (bS BK214.out) hb); replace HB := Aside0.mk (below_step (hS HB.out) hb); (try clear hb); (try clear hb2); (try clear hk); (try clear hi)))
      go_ret
      exact ⟨by first | rfl | (simp [errW_none, errW_some] <;> rfl) | (simp [*, errW_none, errW_some] <;> rfl), by repeat (first | (with_reducible first | exact HB.out | apply below_alloc | apply pw_below_drewN | apply below_drew1 | refine below_set ?_ GE214.out) | exact HB.out)⟩
     ·rw [if_neg c54] at H
      exact absurd H (by simp)
    ·rw [if_neg c52] at H
     have c52b0 : (a0_0 == 3) = false := beq_eq_false_iff_ne.mpr c52
     have c52b1 : (a0_0 != 3) = true := bne_iff_ne.mpr c52
     obtain rfl := Option.some.inj H
     go_enter Try.func26, Try.ntmps26
     try go_wp2_with (first | ((with_reducible refine gate_dst (N := 1) rfl ?_); refine box_event ?hg (N := 1) ?hd (cs := #[.int .i64 a0_0, .int .i64 a0_1, .bool a0_2, .string a0_3, .int .i64 a0_4, .int .i64 a0_5, .int .i64 a0_6, .string a0_7, .int .u64 a0_8, .slice A0_9 l0_9.length c0_9]) (t := 27) ?hr ?_; (case hd => rfl); (case hg => rfl); (case hr => first | (go_simp; done) | (go_simp; rfl)); intro gb214 hg w64 hbox hb; have BK214 := Aside0.mk (hbox); have GW214 := Aside0.mk ((by rw [hg]; exact (below_size (hS HB.out)) : w.heap.size ≤ gb214)); have GE214 := Aside0.mk ((by rw [hg]; exact (below_size (hS HB.out)) : w.heap.size ≤ gb214)); replace HB := Aside0.mk (below_step (hS HB.out) hb); clear hb hbox hg))
     replace BK214 := Aside0.mk (blk_drew BK214.out)
     replace HB := Aside0.mk (below_drew1 HB.out)
     refine start_ (n := 11) (S := fun w' => w'.cell? ⟨gb214, 0, none⟩ = some (.int .i64 a0_0) ∧ w'.cell? ⟨gb214, 1, none⟩ = some (.int .i64 a0_1) ∧ w'.cell? ⟨gb214, 2, none⟩ = some (.bool a0_2) ∧ w'.cell? ⟨gb214, 3, none⟩ = some (.string a0_3) ∧ w'.cell? ⟨gb214, 4, none⟩ = some (.int .i64 a0_4) ∧ w'.cell? ⟨gb214, 5, none⟩ = some (.int .i64 a0_5) ∧ w'.cell? ⟨gb214, 6, none⟩ = some (.int .i64 a0_6) ∧ w'.cell? ⟨gb214, 7, none⟩ = some (.string a0_7) ∧ w'.cell? ⟨gb214, 8, none⟩ = some (.int .u64 a0_8) ∧ w'.cell? ⟨gb214, 9, none⟩ = some (.slice A0_9 l0_9.length c0_9)) (ds := []) #[false, false, false, false, false, false, false, false, false, false, false] (by kernel_rfl) rfl rfl ⟨(blk_cell BK214.out 0).trans rfl, (blk_cell BK214.out 1).trans rfl, (blk_cell BK214.out 2).trans rfl, (blk_cell BK214.out 3).trans rfl, (blk_cell BK214.out 4).trans rfl, (blk_cell BK214.out 5).trans rfl, (blk_cell BK214.out 6).trans rfl, (blk_cell BK214.out 7).trans rfl, (blk_cell BK214.out 8).trans rfl, (blk_cell BK214.out 9).trans rfl⟩ (fun hHeld => ?_); refine with_tabW rollcallref06_plain.tab1 rollcallref06_plain.bits1 (fun HT_ HW_ => ?_)
     generalize w64.drew = w65 at BK214 HB hHeld ⊢
     refine pure_ (i := 0) (N := some 11) (v := ?_) (a' := ?_) #[true, false, false, false, false, false, false, false, false, false, false] rfl rfl (any_of HT_.out (by kernel_rfl)) (fun _ _ _ h => h) (Or.inl ⟨by rfl, ?_⟩) ?_ ?_
     rotate_left
     ·intro w'
      go_simp
      with_reducible rfl
     rotate_left
     ·simp only [Act.put, List.setIfInBounds_toArray, List.set_cons_zero, List.set_cons_succ, i64_w, i32_w]
      rfl
     refine pure_ (i := 5) (N := some 16) (v := ?_) (a' := ?_) #[true, false, false, false, false, true, false, false, false, false, false] rfl rfl (any_of HT_.out (by kernel_rfl)) (fun _ _ _ h => h) (Or.inl ⟨by rfl, ?_⟩) ?_ ?_
     rotate_left
     ·intro w'
      go_simp
      with_reducible rfl
     rotate_left
     ·simp only [Act.put, List.setIfInBounds_toArray, List.set_cons_zero, List.set_cons_succ, i64_w, i32_w]
      rfl
     refine take_ (i := 1) (N := some 12) (v := ?_) (a' := ?_) #[true, true, false, false, false, true, false, false, false, false, false] rfl rfl (take_ofW HT_.out HW_.out (by kernel_rfl)) (fun _ _ _ h => h) (Or.inl ⟨by rfl, ?_⟩) hHeld ?_ ?_
     rotate_left
     ·rintro w' ⟨s0, s1, s2, s3, s4, s5, s6, s7, s8, s9⟩
      go_simp
      with_reducible rfl
     rotate_left
     ·simp only [Act.put, List.setIfInBounds_toArray, List.set_cons_zero, List.set_cons_succ, i64_w, i32_w]
      rfl
     refine pure_ (i := 2) (N := some 13) (v := ?_) (a' := ?_) #[true, true, true, false, false, true, false, false, false, false, false] rfl rfl (any_of HT_.out (by kernel_rfl)) (fun _ _ _ h => h) (Or.inl ⟨by rfl, ?_⟩) ?_ ?_
     rotate_left
     ·intro w'
      go_simp
      with_reducible rfl
     rotate_left
     ·simp only [Act.put, List.setIfInBounds_toArray, List.set_cons_zero, List.set_cons_succ, i64_w, i32_w]
      rfl
     refine take_ (i := 6) (N := some 17) (v := ?_) (a' := ?_) #[true, true, true, false, false, true, true, false, false, false, false] rfl rfl (take_ofW HT_.out HW_.out (by kernel_rfl)) (fun _ _ _ h => h) (Or.inl ⟨by rfl, ?_⟩) hHeld ?_ ?_
     rotate_left
     ·rintro w' ⟨s0, s1, s2, s3, s4, s5, s6, s7, s8, s9⟩
      go_simp
      with_reducible rfl
     rotate_left
     ·simp only [Act.put, List.setIfInBounds_toArray, List.set_cons_zero, List.set_cons_succ, i64_w, i32_w]
      rfl
     refine pure_ (i := 7) (N := some 18) (v := ?_) (a' := ?_) #[true, true, true, false, false, true, true, true, false, false, false] rfl rfl (any_of HT_.out (by kernel_rfl)) (fun _ _ _ h => h) (Or.inl ⟨by rfl, ?_⟩) ?_ ?_
     rotate_left
     ·intro w'
      go_simp
      with_reducible rfl
     rotate_left
     ·simp only [Act.put, List.setIfInBounds_toArray, List.set_cons_zero, List.set_cons_succ, i64_w, i32_w]
      rfl
     refine join_ (σ := Value) 2 #[true, true, true, true, true, true, true, true, true, false, false] (fun s_ => [(14, s_), (15, .string (strOfNums y215)), (19, .string t218)]) (fun s_ w' => (w'.cell? ⟨gb214, 0, none⟩ = some (.int .i64 a0_0) ∧ w'.cell? ⟨gb214, 1, none⟩ = some (.int .i64 a0_1) ∧ w'.cell? ⟨gb214, 2, none⟩ = some (.bool a0_2) ∧ w'.cell? ⟨gb214, 3, none⟩ = some (.string a0_3) ∧ w'.cell? ⟨gb214, 4, none⟩ = some (.int .i64 a0_4) ∧ w'.cell? ⟨gb214, 5, none⟩ = some (.int .i64 a0_5) ∧ w'.cell? ⟨gb214, 6, none⟩ = some (.int .i64 a0_6) ∧ w'.cell? ⟨gb214, 7, none⟩ = some (.string a0_7) ∧ w'.cell? ⟨gb214, 8, none⟩ = some (.int .u64 a0_8) ∧ w'.cell? ⟨gb214, 9, none⟩ = some (.slice A0_9 l0_9.length c0_9)) ∧ (Kd.R (Kd.int .u8) 5 w' w.heap.size (fun _ => True) s_ y215) ∧ (w'.heap[gb214]? = some (.cells #[.int .i64 a0_0, .int .i64 a0_1, .bool a0_2, .string a0_3, .int .i64 a0_4, .int .i64 a0_5, .int .i64 a0_6, .string a0_7, .int .u64 a0_8, .slice A0_9 l0_9.length c0_9] 27 (0, 0))) ∧ (Below w.heap.size w w')) ?_ ?_
     rotate_left
     ·intro hCont
      refine two_ (i := 3) (j := 8) (Ni := some 14) (Nj := some 19) #[true, true, true, true, false, true, true, true, false, false, false] #[true, true, true, false, false, true, true, true, true, false, false] rfl rfl rfl rfl (two_of HT_.out (by kernel_rfl)) (by decide) (by decide) (fun K hK => ?_) (fun K hK => ?_)
      ·skip
       refine Kd.R_lit_step (Kd.int .u8) _ 5 ?hg (N := 14) ?hd (xs := ([(a0_0) % 256] : List Int)) (inner := [.int .u8 ((a0_0) % 256)]) (ok := fun _ => True) (okp := fun _ => True) ?hr ?hp (fun _ hk => hk) trivial (Below.refl _ _) (Nat.le_refl _) (by simp) ?_; (case hd => rfl); (case hg => rfl); (case hr => first | (go_simp; done) | (go_simp; rfl)); (case hp => exact (Reps.one (show Kd.M (Kd.int .u8) _ _ _ ((a0_0) % 256) [.int .u8 ((a0_0) % 256)] from rfl) (Reps.none _ _)))
       intro v216 w66 ho67 hb hg_ hnew_
       clear hg_ hnew_
       (first | rw [← Ny215.out] at ho67 | (simp only [Int.reduceToNat] at ho67; rw [← Ny215.out] at ho67))
       have HO217 := Aside0.mk (Kd.R_lower ho67 (below_size (by repeat (first | (with_reducible first | exact HB.out | apply below_alloc | apply pw_below_drewN | apply below_drew1 | refine below_set ?_ GE214.out) | exact HB.out))))
       replace BK214 := Aside0.mk (blk_below (bS BK214.out) hb)
       replace HB := Aside0.mk (below_step (by repeat (first | (with_reducible first | exact HB.out | apply below_alloc | apply pw_below_drewN | apply below_drew1 | refine below_set ?_ GE214.out) | exact HB.out)) hb)
       clear hb ho67
       refine hK.out _ _ ⟨(blk_cell BK214.out 0).trans rfl, (blk_cell BK214.out 1).trans rfl, (blk_cell BK214.out 2).trans rfl, (blk_cell BK214.out 3).trans rfl, (blk_cell BK214.out 4).trans rfl, (blk_cell BK214.out 5).trans rfl, (blk_cell BK214.out 6).trans rfl, (blk_cell BK214.out 7).trans rfl, (blk_cell BK214.out 8).trans rfl, (blk_cell BK214.out 9).trans rfl⟩ (fun hHeld => ?_)
       clear hK K
       refine norm_ (a' := ?_) ?_ ?_
       rotate_left
       ·show Act.put _ (some 14) _ = _
        simp only [Act.put, List.setIfInBounds_toArray, List.set_cons_zero, List.set_cons_succ, i64_w, i32_w]
        rfl
       refine two_ (i := 4) (j := 8) (Ni := some 15) (Nj := some 19) #[true, true, true, true, true, true, true, true, false, false, false] #[true, true, true, true, false, true, true, true, true, false, false] rfl rfl rfl rfl (two_of HT_.out (by kernel_rfl)) (by decide) (by decide) (fun K hK => ?_) (fun K hK => ?_)
       ·skip
        have hcv68 := own_string (P := Try.prog) Try.underlying40 Try.underlying5 Try.underlying9 (Kd.own_of_R HO217.out)
        refine value_ (w1 := ?_) (v := ?_) (by rfl) rfl ?_ ?_
        rotate_left 2
        ·go_simp
         constructor
         ·rfl
         ·rfl
        clear hcv68
        refine hK.out _ _ ⟨(blk_cell BK214.out 0).trans rfl, (blk_cell BK214.out 1).trans rfl, (blk_cell BK214.out 2).trans rfl, (blk_cell BK214.out 3).trans rfl, (blk_cell BK214.out 4).trans rfl, (blk_cell BK214.out 5).trans rfl, (blk_cell BK214.out 6).trans rfl, (blk_cell BK214.out 7).trans rfl, (blk_cell BK214.out 8).trans rfl, (blk_cell BK214.out 9).trans rfl⟩ (fun hHeld => ?_)
        clear hK K
        refine norm_ (a' := ?_) ?_ ?_
        rotate_left
        ·show Act.put _ (some 15) _ = _
         simp only [Act.put, List.setIfInBounds_toArray, List.set_cons_zero, List.set_cons_succ, i64_w, i32_w]
         rfl
        refine one_ (i := 8) (N := some 19) #[true, true, true, true, true, true, true, true, true, false, false] rfl rfl (one_of HT_.out (by kernel_rfl)) (by decide) (fun K hK => ?_)
        refine goes_ Try.func35 (by kernel_rfl) rfl #[.int .u64 (IntKind.u64.wrap (a0_1))] (by rfl) rfl rfl (by (try simp only [List.map_toArray, List.map_cons, List.map_nil]); first | done | rfl | (simp only [List.length_drop, List.length_take]; rfl)) ?_
        with_reducible refine (rollcallref01_Put.calls k (IntKind.u64.wrap (a0_1)) t218 _ A2.out).mono ?_
        rintro e w69 ⟨rfl, hb⟩
        refine ⟨_, rfl, ?_⟩
        replace HO217 := Aside0.mk (Kd.R_below (rS HO217.out) hb)
        replace BK214 := Aside0.mk (blk_below (bS BK214.out) hb)
        replace HB := Aside0.mk (below_step (by repeat (first | (with_reducible first | exact HB.out | apply below_alloc | apply pw_below_drewN | apply below_drew1 | refine below_set ?_ GE214.out) | exact HB.out)) hb)
        (try clear hb)
        (try clear hb2)
        (try clear hk)
        (try clear hi)
        refine hK.out _ _ ⟨(blk_cell BK214.out 0).trans rfl, (blk_cell BK214.out 1).trans rfl, (blk_cell BK214.out 2).trans rfl, (blk_cell BK214.out 3).trans rfl, (blk_cell BK214.out 4).trans rfl, (blk_cell BK214.out 5).trans rfl, (blk_cell BK214.out 6).trans rfl, (blk_cell BK214.out 7).trans rfl, (blk_cell BK214.out 8).trans rfl, (blk_cell BK214.out 9).trans rfl⟩ (fun hHeld => ?_)
        clear hK K
        refine norm_ (a' := ?_) ?_ ?_
        rotate_left
        ·show Act.put _ (some 19) _ = _
         simp only [Act.put, List.setIfInBounds_toArray, List.set_cons_zero, List.set_cons_succ, i64_w, i32_w]
         rfl
        exact norm_ (by simp only [putAll, Act.put, List.setIfInBounds_toArray, List.set_cons_zero, List.set_cons_succ]) (hCont (v216) _ ⟨hHeld, (rS HO217.out), (bS BK214.out), (by repeat (first | (with_reducible first | exact HB.out | apply below_alloc | apply pw_below_drewN | apply below_drew1 | refine below_set ?_ GE214.out) | exact HB.out))⟩)
       ·skip
        refine goes_ Try.func35 (by kernel_rfl) rfl #[.int .u64 (IntKind.u64.wrap (a0_1))] (by rfl) rfl rfl (by (try simp only [List.map_toArray, List.map_cons, List.map_nil]); first | done | rfl | (simp only [List.length_drop, List.length_take]; rfl)) ?_
        with_reducible refine (rollcallref01_Put.calls k (IntKind.u64.wrap (a0_1)) t218 _ A2.out).mono ?_
        rintro e w68 ⟨rfl, hb⟩
        refine ⟨_, rfl, ?_⟩
        replace HO217 := Aside0.mk (Kd.R_below (rS HO217.out) hb)
        replace BK214 := Aside0.mk (blk_below (bS BK214.out) hb)
        replace HB := Aside0.mk (below_step (by repeat (first | (with_reducible first | exact HB.out | apply below_alloc | apply pw_below_drewN | apply below_drew1 | refine below_set ?_ GE214.out) | exact HB.out)) hb)
        (try clear hb)
        (try clear hb2)
        (try clear hk)
        (try clear hi)
        refine hK.out _ _ ⟨(blk_cell BK214.out 0).trans rfl, (blk_cell BK214.out 1).trans rfl, (blk_cell BK214.out 2).trans rfl, (blk_cell BK214.out 3).trans rfl, (blk_cell BK214.out 4).trans rfl, (blk_cell BK214.out 5).trans rfl, (blk_cell BK214.out 6).trans rfl, (blk_cell BK214.out 7).trans rfl, (blk_cell BK214.out 8).trans rfl, (blk_cell BK214.out 9).trans rfl⟩ (fun hHeld => ?_)
        clear hK K
        refine norm_ (a' := ?_) ?_ ?_
        rotate_left
        ·show Act.put _ (some 19) _ = _
         simp only [Act.put, List.setIfInBounds_toArray, List.set_cons_zero, List.set_cons_succ, i64_w, i32_w]
         rfl
        refine one_ (i := 4) (N := some 15) #[true, true, true, true, true, true, true, true, true, false, false] rfl rfl (one_of HT_.out (by kernel_rfl)) (by decide) (fun K hK => ?_)
        have hcv69 := own_string (P := Try.prog) Try.underlying40 Try.underlying5 Try.underlying9 (Kd.own_of_R HO217.out)
        refine value_ (w1 := ?_) (v := ?_) (by rfl) rfl ?_ ?_
        rotate_left 2
        ·go_simp
         constructor
         ·rfl
         ·rfl
        clear hcv69
        refine hK.out _ _ ⟨(blk_cell BK214.out 0).trans rfl, (blk_cell BK214.out 1).trans rfl, (blk_cell BK214.out 2).trans rfl, (blk_cell BK214.out 3).trans rfl, (blk_cell BK214.out 4).trans rfl, (blk_cell BK214.out 5).trans rfl, (blk_cell BK214.out 6).trans rfl, (blk_cell BK214.out 7).trans rfl, (blk_cell BK214.out 8).trans rfl, (blk_cell BK214.out 9).trans rfl⟩ (fun hHeld => ?_)
        clear hK K
        refine norm_ (a' := ?_) ?_ ?_
        rotate_left
        ·show Act.put _ (some 15) _ = _
         simp only [Act.put, List.setIfInBounds_toArray, List.set_cons_zero, List.set_cons_succ, i64_w, i32_w]
         rfl
        exact norm_ (by simp only [putAll, Act.put, List.setIfInBounds_toArray, List.set_cons_zero, List.set_cons_succ]) (hCont (v216) _ ⟨hHeld, (rS HO217.out), (bS BK214.out), (by repeat (first | (with_reducible first | exact HB.out | apply below_alloc | apply pw_below_drewN | apply below_drew1 | refine below_set ?_ GE214.out) | exact HB.out))⟩)
      ·skip
       refine goes_ Try.func35 (by kernel_rfl) rfl #[.int .u64 (IntKind.u64.wrap (a0_1))] (by rfl) rfl rfl (by (try simp only [List.map_toArray, List.map_cons, List.map_nil]); first | done | rfl | (simp only [List.length_drop, List.length_take]; rfl)) ?_
       with_reducible refine (rollcallref01_Put.calls k (IntKind.u64.wrap (a0_1)) t218 _ A2.out).mono ?_
       rintro e w66 ⟨rfl, hb⟩
       refine ⟨_, rfl, ?_⟩
       replace BK214 := Aside0.mk (blk_below (bS BK214.out) hb)
       replace HB := Aside0.mk (below_step (by repeat (first | (with_reducible first | exact HB.out | apply below_alloc | apply pw_below_drewN | apply below_drew1 | refine below_set ?_ GE214.out) | exact HB.out)) hb)
       (try clear hb)
       (try clear hb2)
       (try clear hk)
       (try clear hi)
       refine hK.out _ _ ⟨(blk_cell BK214.out 0).trans rfl, (blk_cell BK214.out 1).trans rfl, (blk_cell BK214.out 2).trans rfl, (blk_cell BK214.out 3).trans rfl, (blk_cell BK214.out 4).trans rfl, (blk_cell BK214.out 5).trans rfl, (blk_cell BK214.out 6).trans rfl, (blk_cell BK214.out 7).trans rfl, (blk_cell BK214.out 8).trans rfl, (blk_cell BK214.out 9).trans rfl⟩ (fun hHeld => ?_)
       clear hK K
       refine norm_ (a' := ?_) ?_ ?_
       rotate_left
       ·show Act.put _ (some 19) _ = _
        simp only [Act.put, List.setIfInBounds_toArray, List.set_cons_zero, List.set_cons_succ, i64_w, i32_w]
        rfl
       refine one_ (i := 3) (N := some 14) #[true, true, true, true, false, true, true, true, true, false, false] rfl rfl (one_of HT_.out (by kernel_rfl)) (by decide) (fun K hK => ?_)
       refine Kd.R_lit_step (Kd.int .u8) _ 5 ?hg (N := 14) ?hd (xs := ([(a0_0) % 256] : List Int)) (inner := [.int .u8 ((a0_0) % 256)]) (ok := fun _ => True) (okp := fun _ => True) ?hr ?hp (fun _ hk => hk) trivial (Below.refl _ _) (Nat.le_refl _) (by simp) ?_; (case hd => rfl); (case hg => rfl); (case hr => first | (go_simp; done) | (go_simp; rfl)); (case hp => exact (Reps.one (show Kd.M (Kd.int .u8) _ _ _ ((a0_0) % 256) [.int .u8 ((a0_0) % 256)] from rfl) (Reps.none _ _)))
       intro v216 w67 ho68 hb hg_ hnew_
       clear hg_ hnew_
       (first | rw [← Ny215.out] at ho68 | (simp only [Int.reduceToNat] at ho68; rw [← Ny215.out] at ho68))
       have HO217 := Aside0.mk (Kd.R_lower ho68 (below_size (by repeat (first | (with_reducible first | exact HB.out | apply below_alloc | apply pw_below_drewN | apply below_drew1 | refine below_set ?_ GE214.out) | exact HB.out))))
       replace BK214 := Aside0.mk (blk_below (bS BK214.out) hb)
       replace HB := Aside0.mk (below_step (by repeat (first | (with_reducible first | exact HB.out | apply below_alloc | apply pw_below_drewN | apply below_drew1 | refine below_set ?_ GE214.out) | exact HB.out)) hb)
       clear hb ho68
       refine hK.out _ _ ⟨(blk_cell BK214.out 0).trans rfl, (blk_cell BK214.out 1).trans rfl, (blk_cell BK214.out 2).trans rfl, (blk_cell BK214.out 3).trans rfl, (blk_cell BK214.out 4).trans rfl, (blk_cell BK214.out 5).trans rfl, (blk_cell BK214.out 6).trans rfl, (blk_cell BK214.out 7).trans rfl, (blk_cell BK214.out 8).trans rfl, (blk_cell BK214.out 9).trans rfl⟩ (fun hHeld => ?_)
       clear hK K
       refine norm_ (a' := ?_) ?_ ?_
       rotate_left
       ·show Act.put _ (some 14) _ = _
        simp only [Act.put, List.setIfInBounds_toArray, List.set_cons_zero, List.set_cons_succ, i64_w, i32_w]
        rfl
       refine one_ (i := 4) (N := some 15) #[true, true, true, true, true, true, true, true, true, false, false] rfl rfl (one_of HT_.out (by kernel_rfl)) (by decide) (fun K hK => ?_)
       have hcv69 := own_string (P := Try.prog) Try.underlying40 Try.underlying5 Try.underlying9 (Kd.own_of_R HO217.out)
       refine value_ (w1 := ?_) (v := ?_) (by rfl) rfl ?_ ?_
       rotate_left 2
       ·go_simp
        constructor
        ·rfl
        ·rfl
       clear hcv69
       refine hK.out _ _ ⟨(blk_cell BK214.out 0).trans rfl, (blk_cell BK214.out 1).trans rfl, (blk_cell BK214.out 2).trans rfl, (blk_cell BK214.out 3).trans rfl, (blk_cell BK214.out 4).trans rfl, (blk_cell BK214.out 5).trans rfl, (blk_cell BK214.out 6).trans rfl, (blk_cell BK214.out 7).trans rfl, (blk_cell BK214.out 8).trans rfl, (blk_cell BK214.out 9).trans rfl⟩ (fun hHeld => ?_)
       clear hK K
       refine norm_ (a' := ?_) ?_ ?_
       rotate_left
       ·show Act.put _ (some 15) _ = _
        simp only [Act.put, List.setIfInBounds_toArray, List.set_cons_zero, List.set_cons_succ, i64_w, i32_w]
        rfl
       exact norm_ (by simp only [putAll, Act.put, List.setIfInBounds_toArray, List.set_cons_zero, List.set_cons_succ]) (hCont (v216) _ ⟨hHeld, (rS HO217.out), (bS BK214.out), (by repeat (first | (with_reducible first | exact HB.out | apply below_alloc | apply pw_below_drewN | apply below_drew1 | refine below_set ?_ GE214.out) | exact HB.out))⟩)
     rintro v216 w70 ⟨hS_, h0_, h1_, h2_⟩
     have HO217 : Aside0 (Kd.R (Kd.int .u8) 5 w70 w.heap.size (fun _ => True) v216 y215) := ⟨h0_⟩
     replace BK214 : Aside0 (w70.heap[gb214]? = some (.cells #[.int .i64 a0_0, .int .i64 a0_1, .bool a0_2, .string a0_3, .int .i64 a0_4, .int .i64 a0_5, .int .i64 a0_6, .string a0_7, .int .u64 a0_8, .slice A0_9 l0_9.length c0_9] 27 (0, 0))) := ⟨h1_⟩
     replace HB : Aside0 (Below w.heap.size w w70) := ⟨h2_⟩
     clear h0_ h1_ h2_
     have hHeld : w70.cell? ⟨gb214, 0, none⟩ = some (.int .i64 a0_0) ∧ w70.cell? ⟨gb214, 1, none⟩ = some (.int .i64 a0_1) ∧ w70.cell? ⟨gb214, 2, none⟩ = some (.bool a0_2) ∧ w70.cell? ⟨gb214, 3, none⟩ = some (.string a0_3) ∧ w70.cell? ⟨gb214, 4, none⟩ = some (.int .i64 a0_4) ∧ w70.cell? ⟨gb214, 5, none⟩ = some (.int .i64 a0_5) ∧ w70.cell? ⟨gb214, 6, none⟩ = some (.int .i64 a0_6) ∧ w70.cell? ⟨gb214, 7, none⟩ = some (.string a0_7) ∧ w70.cell? ⟨gb214, 8, none⟩ = some (.int .u64 a0_8) ∧ w70.cell? ⟨gb214, 9, none⟩ = some (.slice A0_9 l0_9.length c0_9) := hS_
     refine norm_ (a' := ?_) ?_ ?_
     rotate_left
     ·simp only [putAll, Act.put, List.setIfInBounds_toArray, List.set_cons_zero, List.set_cons_succ]
      rfl
     refine pure_ (i := 9) (N := some 20) (v := ?_) (a' := ?_) #[true, true, true, true, true, true, true, true, true, true, false] rfl rfl (any_of HT_.out (by kernel_rfl)) (fun _ _ _ h => h) (Or.inl ⟨by rfl, ?_⟩) ?_ ?_
     rotate_left
     ·intro w'
      go_simp
      with_reducible rfl
     rotate_left
     ·simp only [Act.put, List.setIfInBounds_toArray, List.set_cons_zero, List.set_cons_succ, i64_w, i32_w]
      rfl
     refine pure_ (i := 10) (N := some 3) (v := ?_) (a' := ?_) #[true, true, true, true, true, true, true, true, true, true, true] rfl rfl (any_of HT_.out (by kernel_rfl)) (fun _ _ _ h => h) (Or.inl ⟨by rfl, ?_⟩) ?_ ?_
     rotate_left
     ·intro w'
      go_simp
      with_reducible rfl
     rotate_left
     ·simp only [Act.put, List.setIfInBounds_toArray, List.set_cons_zero, List.set_cons_succ, i64_w, i32_w]
      rfl
     refine done_ (done_of HT_.out (by kernel_rfl)) ?_
     have hcz71_0 : w70.cell? ⟨gb214, 0, none⟩ = some (.int .i64 a0_0) := (blk_cell BK214.out 0).trans rfl
     have hcz71_1 : w70.cell? ⟨gb214, 1, none⟩ = some (.int .i64 a0_1) := (blk_cell BK214.out 1).trans rfl
     have hcz71_2 : w70.cell? ⟨gb214, 2, none⟩ = some (.bool a0_2) := (blk_cell BK214.out 2).trans rfl
     have hcz71_3 : w70.cell? ⟨gb214, 3, none⟩ = some (.string a0_3) := (blk_cell BK214.out 3).trans rfl
     have hcz71_4 : w70.cell? ⟨gb214, 4, none⟩ = some (.int .i64 a0_4) := (blk_cell BK214.out 4).trans rfl
     have hcz71_5 : w70.cell? ⟨gb214, 5, none⟩ = some (.int .i64 a0_5) := (blk_cell BK214.out 5).trans rfl
     have hcz71_6 : w70.cell? ⟨gb214, 6, none⟩ = some (.int .i64 a0_6) := (blk_cell BK214.out 6).trans rfl
     have hcz71_7 : w70.cell? ⟨gb214, 7, none⟩ = some (.string a0_7) := (blk_cell BK214.out 7).trans rfl
     have hcz71_8 : w70.cell? ⟨gb214, 8, none⟩ = some (.int .u64 a0_8) := (blk_cell BK214.out 8).trans rfl
     have hcz71_9 : w70.cell? ⟨gb214, 9, none⟩ = some (.slice A0_9 l0_9.length c0_9) := (blk_cell BK214.out 9).trans rfl
     have hfz71_0 := blk_frozen BK214.out 0
     have hfz71_1 := blk_frozen BK214.out 1
     have hfz71_2 := blk_frozen BK214.out 2
     have hfz71_3 := blk_frozen BK214.out 3
     have hfz71_4 := blk_frozen BK214.out 4
     have hfz71_5 := blk_frozen BK214.out 5
     have hfz71_6 := blk_frozen BK214.out 6
     have hfz71_7 := blk_frozen BK214.out 7
     have hfz71_8 := blk_frozen BK214.out 8
     have hfz71_9 := blk_frozen BK214.out 9
     try go_wp2
     go_ret
     exact ⟨by first | rfl | (simp [errW_none, errW_some] <;> rfl) | (simp [*, errW_none, errW_some] <;> rfl), by repeat (first | (with_reducible first | exact HB.out | apply below_alloc | apply pw_below_drewN | apply below_drew1 | refine below_set ?_ GE214.out) | exact HB.out)⟩
 ·rw [if_neg c3] at H
  exact absurd H (by simp)

end Go.Proofs.Ytjccgdnnnlgeeaa.PA
end

section
-- Written by a program of this session (wip/tools/xprint.py), which drives the kit's print.
namespace Go.Proofs.Ytjccgdnnnlgeeaa.PA
open Go.RowKit Go.Proofs.YtjccgdnnnlgeeaaW.PrintWords Go.Proofs.YtjccgdnnnlgeeaaW.PrintLast Go.Proofs.YtjccgdnnnlgeeaaW.PrintMore Go.Proofs.Ytjccgdnnnlgeeaa.XQuiet
attribute [local go_sem] min2_int min_two   -- for this text's walks alone
set_option linter.unusedVariables false
set_option linter.unusedSimpArgs false

attribute [local go_sem high] eqA23 eqA52
/-! ### rollcallref06_Encode: function 12 -/
def rollcallref06_Encode.f (k : Nat) (a0_0 : Int) (a0_1 : Int) (a0_2 : Bool) (a0_3 : ByteArray) (a0_4 : Int) (a0_5 : Int) (a0_6 : Int) (a0_7 : ByteArray) (a0_8 : Int) (l0_9 : List (S52)) : Option (ByteArray × Int) := (rollcallref06_May.f k a0_0 a0_1 a0_2 a0_3 a0_4 a0_5 a0_6 a0_7 a0_8 l0_9).bind fun t229 => (if t229 = true then ((rollcallref06_plain.f k a0_0 a0_1 a0_2 a0_3 a0_4 a0_5 a0_6 a0_7 a0_8 l0_9).bind fun t230 => ((rollcallref02_Seal.f k t230).bind fun t231 => (some (t231, 0)))) else (some ((⟨#[]⟩ : ByteArray), 1)))
set_option maxHeartbeats 8000000 in
set_option maxRecDepth 100000 in
theorem rollcallref06_Encode.calls (k : Nat) (a0_0 : Int) (a0_1 : Int) (a0_2 : Bool) (a0_3 : ByteArray) (a0_4 : Int) (a0_5 : Int) (a0_6 : Int) (a0_7 : ByteArray) (a0_8 : Int) (A0_9 : Option Addr) (c0_9 : Nat) (l0_9 : List (S52)) (r1 : ByteArray) (r2 : Int) (w : World) (hr0_9 : Kd.C k52 w A0_9 l0_9.length l0_9) (hc0_9 : l0_9.length ≤ c0_9) (h : rollcallref06_Encode.f k a0_0 a0_1 a0_2 a0_3 a0_4 a0_5 a0_6 a0_7 a0_8 l0_9 = some (r1, r2)) :
  Calls Try.prog 12 #[.agg #[.int .i64 a0_0, .int .i64 a0_1, .bool a0_2, .string a0_3, .int .i64 a0_4, .int .i64 a0_5, .int .i64 a0_6, .string a0_7, .int .u64 a0_8, .slice A0_9 l0_9.length c0_9]] w fun e w' => e = .returned (.tuple #[.string r1, .int .i64 r2]) ∧ Below w.heap.size w w' := by
 have hu27 := Try.underlying27
 have HR0_9 := Aside0.mk hr0_9
 have HC0_9 := Aside0.mk hc0_9
 clear hr0_9 hc0_9
 have HB := Aside0.mk (Below.refl w.heap.size w)
 have H : ((rollcallref06_May.f k a0_0 a0_1 a0_2 a0_3 a0_4 a0_5 a0_6 a0_7 a0_8 l0_9).bind fun t229 => (if t229 = true then ((rollcallref06_plain.f k a0_0 a0_1 a0_2 a0_3 a0_4 a0_5 a0_6 a0_7 a0_8 l0_9).bind fun t230 => ((rollcallref02_Seal.f k t230).bind fun t231 => (some (t231, 0)))) else (some ((⟨#[]⟩ : ByteArray), 1)))) = some (r1, r2) := h
 clear h
 replace H := Option.bind_eq_some_iff.mp H
 obtain ⟨t229, A20, H⟩ := H
 replace H : (if t229 = true then ((rollcallref06_plain.f k a0_0 a0_1 a0_2 a0_3 a0_4 a0_5 a0_6 a0_7 a0_8 l0_9).bind fun t230 => ((rollcallref02_Seal.f k t230).bind fun t231 => (some (t231, 0)))) else (some ((⟨#[]⟩ : ByteArray), 1))) = some (r1, r2) := H
 have A2 := Aside0.mk A20
 clear A20
 by_cases c3 : t229 = true
 ·subst c3
  have H1 : ((rollcallref06_plain.f k a0_0 a0_1 a0_2 a0_3 a0_4 a0_5 a0_6 a0_7 a0_8 l0_9).bind fun t230 => ((rollcallref02_Seal.f k t230).bind fun t231 => (some (t231, 0)))) = some (r1, r2) := by rw [if_pos rfl] at H; exact H
  clear H
  have H := H1
  clear H1
  replace H := Option.bind_eq_some_iff.mp H
  obtain ⟨t230, A40, H⟩ := H
  replace H : ((rollcallref02_Seal.f k t230).bind fun t231 => (some (t231, 0))) = some (r1, r2) := H
  have A4 := Aside0.mk A40
  clear A40
  replace H := Option.bind_eq_some_iff.mp H
  obtain ⟨t231, A50, H⟩ := H
  replace H : (some (t231, 0)) = some (r1, r2) := H
  have A5 := Aside0.mk A50
  clear A50
  simp only [Option.some.injEq, Prod.mk.injEq] at H
  obtain ⟨rfl, rfl⟩ := H
  go_enter Try.func12, Try.ntmps12
  go_wp2_with (first | ((with_reducible refine gate_dst (N := 1) rfl ?_); refine box_event ?hg (N := 1) ?hd (cs := #[.int .i64 a0_0, .int .i64 a0_1, .bool a0_2, .string a0_3, .int .i64 a0_4, .int .i64 a0_5, .int .i64 a0_6, .string a0_7, .int .u64 a0_8, .slice A0_9 l0_9.length c0_9]) (t := 27) ?hr ?_; (case hd => rfl); (case hg => rfl); (case hr => first | (go_simp; done) | (go_simp; rfl)); intro gb228 hg w6 hbox hb; have BK228 := Aside0.mk (hbox); have GW228 := Aside0.mk ((by rw [hg]; exact (below_size (hS HB.out)) : w.heap.size ≤ gb228)); have GE228 := Aside0.mk ((by rw [hg]; exact (below_size (hS HB.out)) : w.heap.size ≤ gb228)); replace HB := Aside0.mk (below_step (hS HB.out) hb); clear hb hbox hg; have hcz7_0 : w6.cell? ⟨gb228, 0, none⟩ = some (.int .i64 a0_0) := (blk_cell BK228.out 0).trans rfl; have hcz7_1 : w6.cell? ⟨gb228, 1, none⟩ = some (.int .i64 a0_1) := (blk_cell BK228.out 1).trans rfl; have hcz7_2 : w6.cell? ⟨gb228, 2, none⟩ = some (.bool a0_2) := (blk_cell BK228.out 2).trans rfl; have hcz7_3 : w6.cell? ⟨gb228, 3, none⟩ = some (.string a0_3) := (blk_cell BK228.out 3).trans rfl; have hcz7_4 : w6.cell? ⟨gb228, 4, none⟩ = some (.int .i64 a0_4) := (blk_cell BK228.out 4).trans rfl; have hcz7_5 : w6.cell? ⟨gb228, 5, none⟩ = some (.int .i64 a0_5) := (blk_cell BK228.out 5).trans rfl; have hcz7_6 : w6.cell? ⟨gb228, 6, none⟩ = some (.int .i64 a0_6) := (blk_cell BK228.out 6).trans rfl; have hcz7_7 : w6.cell? ⟨gb228, 7, none⟩ = some (.string a0_7) := (blk_cell BK228.out 7).trans rfl; have hcz7_8 : w6.cell? ⟨gb228, 8, none⟩ = some (.int .u64 a0_8) := (blk_cell BK228.out 8).trans rfl; have hcz7_9 : w6.cell? ⟨gb228, 9, none⟩ = some (.slice A0_9 l0_9.length c0_9) := (blk_cell BK228.out 9).trans rfl; have hfz7_0 := blk_frozen BK228.out 0; have hfz7_1 := blk_frozen BK228.out 1; have hfz7_2 := blk_frozen BK228.out 2; have hfz7_3 := blk_frozen BK228.out 3; have hfz7_4 := blk_frozen BK228.out 4; have hfz7_5 := blk_frozen BK228.out 5; have hfz7_6 := blk_frozen BK228.out 6; have hfz7_7 := blk_frozen BK228.out 7; have hfz7_8 := blk_frozen BK228.out 8; have hfz7_9 := blk_frozen BK228.out 9) | ((with_reducible refine gate_callee (f := 14) rfl ?_); refine goesL_ (some 5) rfl rfl Try.func14 (by kernel_rfl) rfl #[.agg #[.int .i64 a0_0, .int .i64 a0_1, .bool a0_2, .string a0_3, .int .i64 a0_4, .int .i64 a0_5, .int .i64 a0_6, .string a0_7, .int .u64 a0_8, .slice A0_9 l0_9.length c0_9]] rfl (by (try simp only [List.map_toArray, List.map_cons, List.map_nil]); first | done | rfl | (simp only [List.length_drop, List.length_take]; rfl)) ?_; (with_reducible refine (rollcallref06_May.calls k a0_0 a0_1 a0_2 a0_3 a0_4 a0_5 a0_6 a0_7 a0_8 _ _ l0_9 true _ ?side1 ?side2 A2.out).mono ?_); (case side1 => repeat (first | exact (Kd.C_below HR0_9.out HB.out) | (with_reducible refine Kd.C_alloc ?_ _) | (with_reducible refine Kd.C_drewN ?_ _) | (with_reducible refine Kd.C_drew ?_))); (case side2 => exact HC0_9.out); rintro e w8 ⟨rfl, hb⟩; refine ⟨_, rfl, ?_⟩; replace BK228 := Aside0.mk (blk_below (bS BK228.out) hb); replace HB := Aside0.mk (below_step (hS HB.out) hb); (try clear hb); (try clear hb2); (try clear hk); (try clear hi); have hcz9_0 : w8.cell? ⟨gb228, 0, none⟩ = some (.int .i64 a0_0) := (blk_cell BK228.out 0).trans rfl; have hcz9_1 : w8.cell? ⟨gb228, 1, none⟩ = some (.int .i64 a0_1) := (blk_cell BK228.out 1).trans rfl; have hcz9_2 : w8.cell? ⟨gb228, 2, none⟩ = some (.bool a0_2) := (blk_cell BK228.out 2).trans rfl; have hcz9_3 : w8.cell? ⟨gb228, 3, none⟩ = some (.string a0_3) := (blk_cell BK228.out 3).trans rfl; have hcz9_4 : w8.cell? ⟨gb228, 4, none⟩ = some (.int .i64 a0_4) := (blk_cell BK228.out 4).trans rfl; have hcz9_5 : w8.cell? ⟨gb228, 5, none⟩ = some (.int .i64 a0_5) := (blk_cell BK228.out 5).trans rfl; have hcz9_6 : w8.cell? ⟨gb228, 6, none⟩ = some (.int .i64 a0_6) := (blk_cell BK228.out 6).trans rfl; have hcz9_7 : w8.cell? ⟨gb228, 7, none⟩ = some (.string a0_7) := (blk_cell BK228.out 7).trans rfl; have hcz9_8 : w8.cell? ⟨gb228, 8, none⟩ = some (.int .u64 a0_8) := (blk_cell BK228.out 8).trans rfl; have hcz9_9 : w8.cell? ⟨gb228, 9, none⟩ = some (.slice A0_9 l0_9.length c0_9) := (blk_cell BK228.out 9).trans rfl; have hfz9_0 := blk_frozen BK228.out 0; have hfz9_1 := blk_frozen BK228.out 1; have hfz9_2 := blk_frozen BK228.out 2; have hfz9_3 := blk_frozen BK228.out 3; have hfz9_4 := blk_frozen BK228.out 4; have hfz9_5 := blk_frozen BK228.out 5; have hfz9_6 := blk_frozen BK228.out 6; have hfz9_7 := blk_frozen BK228.out 7; have hfz9_8 := blk_frozen BK228.out 8; have hfz9_9 := blk_frozen BK228.out 9) | ((with_reducible refine gate_callee (f := 26) rfl ?_); refine goesL_ (some 8) rfl rfl Try.func26 (by kernel_rfl) rfl #[.agg #[.int .i64 a0_0, .int .i64 a0_1, .bool a0_2, .string a0_3, .int .i64 a0_4, .int .i64 a0_5, .int .i64 a0_6, .string a0_7, .int .u64 a0_8, .slice A0_9 l0_9.length c0_9]] rfl (by (try simp only [List.map_toArray, List.map_cons, List.map_nil]); first | done | rfl | (simp only [List.length_drop, List.length_take]; rfl)) ?_; (with_reducible refine (rollcallref06_plain.calls k a0_0 a0_1 a0_2 a0_3 a0_4 a0_5 a0_6 a0_7 a0_8 _ _ l0_9 t230 _ ?side1 ?side2 A4.out).mono ?_); (case side1 => repeat (first | exact (Kd.C_below HR0_9.out HB.out) | (with_reducible refine Kd.C_alloc ?_ _) | (with_reducible refine Kd.C_drewN ?_ _) | (with_reducible refine Kd.C_drew ?_))); (case side2 => exact HC0_9.out); rintro e w10 ⟨rfl, hb⟩; refine ⟨_, rfl, ?_⟩; replace BK228 := Aside0.mk (blk_below (bS BK228.out) hb); replace HB := Aside0.mk (below_step (hS HB.out) hb); (try clear hb); (try clear hb2); (try clear hk); (try clear hi)) | ((with_reducible refine gate_callee (f := 19) rfl ?_); refine goesL_ (some 9) rfl rfl Try.func19 (by kernel_rfl) rfl #[.string t230] rfl (by (try simp only [List.map_toArray, List.map_cons, List.map_nil]); first | done | rfl | (simp only [List.length_drop, List.length_take]; rfl)) ?_; (with_reducible refine (rollcallref02_Seal.calls k t230 t231 _ A5.out).mono ?_); rintro e w11 ⟨rfl, hb⟩; refine ⟨_, rfl, ?_⟩; replace BK228 := Aside0.mk (blk_below (bS BK228.out) hb); replace HB := Aside0.mk (below_step (hS HB.out) hb); (try clear hb); (try clear hb2); (try clear hk); (try clear hi)))
  go_ret2
  exact ⟨by first | rfl | (simp [errW_none, errW_some] <;> rfl) | (simp [*, errW_none, errW_some] <;> rfl), by repeat (first | (with_reducible first | exact HB.out | apply below_alloc | apply pw_below_drewN | apply below_drew1 | refine below_set ?_ GE228.out) | exact HB.out)⟩
 ·replace c3 := Bool.eq_false_iff.mpr c3
  subst c3
  have H1 : (some ((⟨#[]⟩ : ByteArray), 1)) = some (r1, r2) := by rw [if_neg (show ¬ (false = true) by decide)] at H; exact H
  clear H
  have H := H1
  clear H1
  simp only [Option.some.injEq, Prod.mk.injEq] at H
  obtain ⟨rfl, rfl⟩ := H
  go_enter Try.func12, Try.ntmps12
  go_wp2_with (first | ((with_reducible refine gate_dst (N := 1) rfl ?_); refine box_event ?hg (N := 1) ?hd (cs := #[.int .i64 a0_0, .int .i64 a0_1, .bool a0_2, .string a0_3, .int .i64 a0_4, .int .i64 a0_5, .int .i64 a0_6, .string a0_7, .int .u64 a0_8, .slice A0_9 l0_9.length c0_9]) (t := 27) ?hr ?_; (case hd => rfl); (case hg => rfl); (case hr => first | (go_simp; done) | (go_simp; rfl)); intro gb228 hg w12 hbox hb; have BK228 := Aside0.mk (hbox); have GW228 := Aside0.mk ((by rw [hg]; exact (below_size (hS HB.out)) : w.heap.size ≤ gb228)); have GE228 := Aside0.mk ((by rw [hg]; exact (below_size (hS HB.out)) : w.heap.size ≤ gb228)); replace HB := Aside0.mk (below_step (hS HB.out) hb); clear hb hbox hg; have hcz13_0 : w12.cell? ⟨gb228, 0, none⟩ = some (.int .i64 a0_0) := (blk_cell BK228.out 0).trans rfl; have hcz13_1 : w12.cell? ⟨gb228, 1, none⟩ = some (.int .i64 a0_1) := (blk_cell BK228.out 1).trans rfl; have hcz13_2 : w12.cell? ⟨gb228, 2, none⟩ = some (.bool a0_2) := (blk_cell BK228.out 2).trans rfl; have hcz13_3 : w12.cell? ⟨gb228, 3, none⟩ = some (.string a0_3) := (blk_cell BK228.out 3).trans rfl; have hcz13_4 : w12.cell? ⟨gb228, 4, none⟩ = some (.int .i64 a0_4) := (blk_cell BK228.out 4).trans rfl; have hcz13_5 : w12.cell? ⟨gb228, 5, none⟩ = some (.int .i64 a0_5) := (blk_cell BK228.out 5).trans rfl; have hcz13_6 : w12.cell? ⟨gb228, 6, none⟩ = some (.int .i64 a0_6) := (blk_cell BK228.out 6).trans rfl; have hcz13_7 : w12.cell? ⟨gb228, 7, none⟩ = some (.string a0_7) := (blk_cell BK228.out 7).trans rfl; have hcz13_8 : w12.cell? ⟨gb228, 8, none⟩ = some (.int .u64 a0_8) := (blk_cell BK228.out 8).trans rfl; have hcz13_9 : w12.cell? ⟨gb228, 9, none⟩ = some (.slice A0_9 l0_9.length c0_9) := (blk_cell BK228.out 9).trans rfl; have hfz13_0 := blk_frozen BK228.out 0; have hfz13_1 := blk_frozen BK228.out 1; have hfz13_2 := blk_frozen BK228.out 2; have hfz13_3 := blk_frozen BK228.out 3; have hfz13_4 := blk_frozen BK228.out 4; have hfz13_5 := blk_frozen BK228.out 5; have hfz13_6 := blk_frozen BK228.out 6; have hfz13_7 := blk_frozen BK228.out 7; have hfz13_8 := blk_frozen BK228.out 8; have hfz13_9 := blk_frozen BK228.out 9) | ((with_reducible refine gate_callee (f := 14) rfl ?_); refine goesL_ (some 5) rfl rfl Try.func14 (by kernel_rfl) rfl #[.agg #[.int .i64 a0_0, .int .i64 a0_1, .bool a0_2, .string a0_3, .int .i64 a0_4, .int .i64 a0_5, .int .i64 a0_6, .string a0_7, .int .u64 a0_8, .slice A0_9 l0_9.length c0_9]] rfl (by (try simp only [List.map_toArray, List.map_cons, List.map_nil]); first | done | rfl | (simp only [List.length_drop, List.length_take]; rfl)) ?_; (with_reducible refine (rollcallref06_May.calls k a0_0 a0_1 a0_2 a0_3 a0_4 a0_5 a0_6 a0_7 a0_8 _ _ l0_9 false _ ?side1 ?side2 A2.out).mono ?_); (case side1 => repeat (first | exact (Kd.C_below HR0_9.out HB.out) | (with_reducible refine Kd.C_alloc ?_ _) | (with_reducible refine Kd.C_drewN ?_ _) | (with_reducible refine Kd.C_drew ?_))); (case side2 => exact HC0_9.out); rintro e w14 ⟨rfl, hb⟩; refine ⟨_, rfl, ?_⟩; replace BK228 := Aside0.mk (blk_below (bS BK228.out) hb); replace HB := Aside0.mk (below_step (hS HB.out) hb); (try clear hb); (try clear hb2); (try clear hk); (try clear hi)))
  go_ret2
  exact ⟨by first | rfl | (simp [errW_none, errW_some] <;> rfl) | (simp [*, errW_none, errW_some] <;> rfl), by repeat (first | (with_reducible first | exact HB.out | apply below_alloc | apply pw_below_drewN | apply below_drew1 | refine below_set ?_ GE228.out) | exact HB.out)⟩

/-! ### rollcallref05_Same: function 23 -/
def rollcallref05_Same.l0 : Nat → List (S52) → List (S52) → Int → Option (Bool)
 | 0, _, _, _ => none
 | k + 1, x0, x1, x5 => if x5 < (x0.length : Int) then (if 0 ≤ x5 then (if x5 < (x1.length : Int) then (if (!((((rd_T52 x0 x5).f0).toList) == (((rd_T52 x1 x5).f0).toList)) || ((!(((rd_T52 x0 x5).f1.f0) == ((rd_T52 x1 x5).f1.f0)) || (!(((rd_T52 x0 x5).f1.f1) == ((rd_T52 x1 x5).f1.f1)) || (!(((rd_T52 x0 x5).f1.f2) == ((rd_T52 x1 x5).f1.f2)) || (!((((rd_T52 x0 x5).f1.f3).toList) == (((rd_T52 x1 x5).f1.f3).toList)))))))) = true then (some false) else (rollcallref05_Same.l0 k x0 x1 (wrap64 (x5 + 1)))) else (none)) else (none)) else (some true)
def rollcallref05_Same.f (k : Nat) (l0 : List (S52)) (l1 : List (S52)) : Option (Bool) := if (l0.length : Int) = (l1.length : Int) then (rollcallref05_Same.l0 k l0 l1 0) else (some false)
set_option maxHeartbeats 8000000 in
set_option maxRecDepth 100000 in
theorem rollcallref05_Same.calls (k : Nat) (A0 : Option Addr) (c0 : Nat) (l0 : List (S52)) (A1 : Option Addr) (c1 : Nat) (l1 : List (S52)) (r : Bool) (w : World) (hr0 : Kd.C k52 w A0 l0.length l0) (hc0 : l0.length ≤ c0) (hr1 : Kd.C k52 w A1 l1.length l1) (hc1 : l1.length ≤ c1) (h : rollcallref05_Same.f k l0 l1 = some r) :
  Calls Try.prog 23 #[.slice A0 l0.length c0, .slice A1 l1.length c1] w fun e w' => e = .returned (.bool r) ∧ Drawn0 w w' := by
 have hu52 := Try.underlying52
 have HR0 := Aside0.mk hr0
 have HC0 := Aside0.mk hc0
 clear hr0 hc0
 have HR1 := Aside0.mk hr1
 have HC1 := Aside0.mk hc1
 clear hr1 hc1
 have H : (if (l0.length : Int) = (l1.length : Int) then (rollcallref05_Same.l0 k l0 l1 0) else (some false)) = some r := h
 clear h
 by_cases c3 : (l0.length : Int) = (l1.length : Int)
 ·rw [if_pos c3] at H
  have c3b0 : ((l0.length : Int) == (l1.length : Int)) = true := beq_iff_eq.mpr c3
  have c3b1 : ((l0.length : Int) != (l1.length : Int)) = false := bne_eq_false_iff_eq.mpr c3
  have c3b2 : (l0.length == l1.length) = true := by first | simpa using c3 | (simp at c3 ⊢; omega)
  clear c3
  have H' := Aside0.mk H
  clear H
  go_enter Try.func23, Try.ntmps23
  go_wp2
  repeat (go_quiet (fail); try go_wp2)
  go_loopg [5] k (fun kq v5 w' => ∃ (x5_1 : Int), v5 = .int .i64 x5_1 ∧ Aside0 (rollcallref05_Same.l0 kq l0 l1 x5_1 = some r) ∧ Aside0 (kq ≤ k) ∧ Drawn0 w w')
  case atStart => exact ⟨(0), (by first | rfl | (simp; done) | (simp [*]; done)), H', ⟨Nat.le_refl _⟩, by repeat (first | exact Drawn0.refl _ | apply Drawn0.step)⟩
  case round =>
   clear H'
   try clear c1
   try clear c2
   try clear p2
   try clear c3
   try clear c3b0
   try clear c3b1
   try clear c3b2
   obtain ⟨x5_1, rfl, HA, HK1, ⟨m1, rfl⟩⟩ := hrel
   cases gk with
   | zero => exact absurd HA.out (by simp [rollcallref05_Same.l0])
   | succ k1 =>
    have H := HA.out
    clear HA
    simp only [rollcallref05_Same.l0] at H
    by_cases c4 : x5_1 < (l0.length : Int)
    ·rw [if_pos c4] at H
     have c4b0 : decide (x5_1 < (l0.length : Int)) = true := decide_eq_true c4
     clear c4
     by_cases c5 : 0 ≤ x5_1
     ·rw [if_pos c5] at H
      have c5b0 : decide (0 ≤ x5_1) = true := decide_eq_true c5
      clear c5
      by_cases c6 : x5_1 < (l1.length : Int)
      ·rw [if_pos c6] at H
       have c6b0 : decide (x5_1 < (l1.length : Int)) = true := decide_eq_true c6
       clear c6
       by_cases c7 : (!((((rd_T52 l0 x5_1).f0).toList) == (((rd_T52 l1 x5_1).f0).toList)) || ((!(((rd_T52 l0 x5_1).f1.f0) == ((rd_T52 l1 x5_1).f1.f0)) || (!(((rd_T52 l0 x5_1).f1.f1) == ((rd_T52 l1 x5_1).f1.f1)) || (!(((rd_T52 l0 x5_1).f1.f2) == ((rd_T52 l1 x5_1).f1.f2)) || (!((((rd_T52 l0 x5_1).f1.f3).toList) == (((rd_T52 l1 x5_1).f1.f3).toList)))))))) = true
       ·rw [if_pos c7] at H
        have c7b0 : (!((((rd_T52 l0 x5_1).f0).toList) == (((rd_T52 l1 x5_1).f0).toList)) || ((!(((rd_T52 l0 x5_1).f1.f0) == ((rd_T52 l1 x5_1).f1.f0)) || (!(((rd_T52 l0 x5_1).f1.f1) == ((rd_T52 l1 x5_1).f1.f1)) || (!(((rd_T52 l0 x5_1).f1.f2) == ((rd_T52 l1 x5_1).f1.f2)) || (!((((rd_T52 l0 x5_1).f1.f3).toList) == (((rd_T52 l1 x5_1).f1.f3).toList)))))))) = true := c7
        clear c7
        obtain rfl := Option.some.inj H
        have p232 : 0 ≤ (x5_1 : Int) := of_decide_eq_true (by first | (with_reducible assumption) | assumption)
        have q232 : x5_1 < (l0.length : Int) := of_decide_eq_true (by first | (with_reducible assumption) | assumption)
        obtain ⟨ad232, e232, hx232_0, hx232_1, hx232_2, hx232_3, hx232_4⟩ := at_T52 HR0.out x5_1 p232 q232
        cases e232
        replace p232 := eq_true p232
        replace q232 := eq_true q232
        have p233 : 0 ≤ (x5_1 : Int) := of_decide_eq_true (by first | (with_reducible assumption) | assumption)
        have q233 : x5_1 < (l1.length : Int) := of_decide_eq_true (by first | (with_reducible assumption) | assumption)
        obtain ⟨ad233, e233, hx233_0, hx233_1, hx233_2, hx233_3, hx233_4⟩ := at_T52 HR1.out x5_1 p233 q233
        cases e233
        replace p233 := eq_true p233
        replace q233 := eq_true q233
        go_wp2
        repeat (go_quiet (fail); try go_wp2)
        go_ret
        exact ⟨by first | rfl | (simp; done) | (simp [*]; done), by repeat (first | exact Drawn0.refl _ | apply Drawn0.step)⟩
       ·rw [if_neg c7] at H
        have c7b0 : (!((((rd_T52 l0 x5_1).f0).toList) == (((rd_T52 l1 x5_1).f0).toList)) || ((!(((rd_T52 l0 x5_1).f1.f0) == ((rd_T52 l1 x5_1).f1.f0)) || (!(((rd_T52 l0 x5_1).f1.f1) == ((rd_T52 l1 x5_1).f1.f1)) || (!(((rd_T52 l0 x5_1).f1.f2) == ((rd_T52 l1 x5_1).f1.f2)) || (!((((rd_T52 l0 x5_1).f1.f3).toList) == (((rd_T52 l1 x5_1).f1.f3).toList)))))))) = false := by simpa using c7
        clear c7
        have H' := Aside0.mk H
        clear H
        have p232 : 0 ≤ (x5_1 : Int) := of_decide_eq_true (by first | (with_reducible assumption) | assumption)
        have q232 : x5_1 < (l0.length : Int) := of_decide_eq_true (by first | (with_reducible assumption) | assumption)
        obtain ⟨ad232, e232, hx232_0, hx232_1, hx232_2, hx232_3, hx232_4⟩ := at_T52 HR0.out x5_1 p232 q232
        cases e232
        replace p232 := eq_true p232
        replace q232 := eq_true q232
        have p233 : 0 ≤ (x5_1 : Int) := of_decide_eq_true (by first | (with_reducible assumption) | assumption)
        have q233 : x5_1 < (l1.length : Int) := of_decide_eq_true (by first | (with_reducible assumption) | assumption)
        obtain ⟨ad233, e233, hx233_0, hx233_1, hx233_2, hx233_3, hx233_4⟩ := at_T52 HR1.out x5_1 p233 q233
        cases e233
        replace p233 := eq_true p233
        replace q233 := eq_true q233
        go_wp2
        repeat (go_quiet (fail); try go_wp2)
        go_roundg k1
        case measure => have := HK1.out; omega
        case rel => exact ⟨(wrap64 (x5_1 + 1)), (by first | rfl | (simp; done) | (simp [*]; done)), H', ⟨by have := HK1.out; omega⟩, by repeat (first | exact Drawn0.refl _ | apply Drawn0.step)⟩
      ·rw [if_neg c6] at H
       exact absurd H (by simp)
     ·rw [if_neg c5] at H
      exact absurd H (by simp)
    ·rw [if_neg c4] at H
     have c4b0 : decide (x5_1 < (l0.length : Int)) = false := decide_eq_false c4
     clear c4
     obtain rfl := Option.some.inj H
     go_wp2
     repeat (go_quiet (fail); try go_wp2)
     go_ret
     exact ⟨by first | rfl | (simp; done) | (simp [*]; done), by repeat (first | exact Drawn0.refl _ | apply Drawn0.step)⟩
 ·rw [if_neg c3] at H
  have c3b0 : ((l0.length : Int) == (l1.length : Int)) = false := beq_eq_false_iff_ne.mpr c3
  have c3b1 : ((l0.length : Int) != (l1.length : Int)) = true := bne_iff_ne.mpr c3
  have c3b2 : (l0.length == l1.length) = false := by first | simpa using c3 | (simp at c3 ⊢; omega)
  obtain rfl := Option.some.inj H
  go_enter Try.func23, Try.ntmps23
  go_wp2
  repeat (go_quiet (fail); try go_wp2)
  go_ret
  exact ⟨by first | rfl | (simp; done) | (simp [*]; done), by repeat (first | exact Drawn0.refl _ | apply Drawn0.step)⟩

/-! ### rollcallref06_Same: function 16 -/
def rollcallref06_Same.f (k : Nat) (a0_0 : Int) (a0_1 : Int) (a0_2 : Bool) (a0_3 : ByteArray) (a0_4 : Int) (a0_5 : Int) (a0_6 : Int) (a0_7 : ByteArray) (a0_8 : Int) (l0_9 : List (S52)) (a1_0 : Int) (a1_1 : Int) (a1_2 : Bool) (a1_3 : ByteArray) (a1_4 : Int) (a1_5 : Int) (a1_6 : Int) (a1_7 : ByteArray) (a1_8 : Int) (l1_9 : List (S52)) : Option (Bool) := if a0_0 = a1_0 then (if a0_1 = a1_1 then (if (a0_2 == a1_2) = true then (if a0_3.toList = a1_3.toList then (if (a0_4 == a1_4 && (a0_5 == a1_5 && (a0_6 == a1_6 && (a0_7.toList == a1_7.toList)))) = true then (if a0_8 = a1_8 then ((rollcallref05_Same.f k l0_9 l1_9).bind fun t236 => (some t236)) else (some false)) else (some false)) else (some false)) else (some false)) else (some false)) else (some false)
set_option maxHeartbeats 8000000 in
set_option maxRecDepth 100000 in
theorem rollcallref06_Same.calls (k : Nat) (a0_0 : Int) (a0_1 : Int) (a0_2 : Bool) (a0_3 : ByteArray) (a0_4 : Int) (a0_5 : Int) (a0_6 : Int) (a0_7 : ByteArray) (a0_8 : Int) (A0_9 : Option Addr) (c0_9 : Nat) (l0_9 : List (S52)) (a1_0 : Int) (a1_1 : Int) (a1_2 : Bool) (a1_3 : ByteArray) (a1_4 : Int) (a1_5 : Int) (a1_6 : Int) (a1_7 : ByteArray) (a1_8 : Int) (A1_9 : Option Addr) (c1_9 : Nat) (l1_9 : List (S52)) (r : Bool) (w : World) (hr0_9 : Kd.C k52 w A0_9 l0_9.length l0_9) (hc0_9 : l0_9.length ≤ c0_9) (hr1_9 : Kd.C k52 w A1_9 l1_9.length l1_9) (hc1_9 : l1_9.length ≤ c1_9) (h : rollcallref06_Same.f k a0_0 a0_1 a0_2 a0_3 a0_4 a0_5 a0_6 a0_7 a0_8 l0_9 a1_0 a1_1 a1_2 a1_3 a1_4 a1_5 a1_6 a1_7 a1_8 l1_9 = some r) :
  Calls Try.prog 16 #[.agg #[.int .i64 a0_0, .int .i64 a0_1, .bool a0_2, .string a0_3, .int .i64 a0_4, .int .i64 a0_5, .int .i64 a0_6, .string a0_7, .int .u64 a0_8, .slice A0_9 l0_9.length c0_9], .agg #[.int .i64 a1_0, .int .i64 a1_1, .bool a1_2, .string a1_3, .int .i64 a1_4, .int .i64 a1_5, .int .i64 a1_6, .string a1_7, .int .u64 a1_8, .slice A1_9 l1_9.length c1_9]] w fun e w' => e = .returned (.bool r) ∧ Below w.heap.size w w' := by
 unfold rollcallref06_Same.f at h
 have HV : ∀ (A : Option Addr) (c : Nat) (l : List (S52)), Kd.C k52 w A l.length l → l.length ≤ c → Kd.V k52 0 w 0 (fun _ => True) (.slice A l.length c) l := fun A c l hr hc => ⟨A, c, rfl, hc, Kd.F_mono (Kd.C_F (show Kd.Heap k52 from ⟨fun _ hK => by obtain rfl := k52_open hK; exact k52_mk _ _⟩) hr) (fun _ _ => trivial)⟩
 have S := ((Go.Proofs.Ytjccgdnnnlgeeaa.XSt.Kn.start (fun _ => True) w).arg (d := k52) (e := 0) (HV _ _ _ hr0_9 hc0_9)).arg (d := k52) (e := 0) (HV _ _ _ hr1_9 hc1_9)
 clear hr0_9 hc0_9 hr1_9 hc1_9 HV
 obtain ⟨w0, hw0⟩ : ∃ x : World, x = w := ⟨_, rfl⟩
 have HW := Aside0.mk hw0
 clear hw0
 go_enter Try.func16, Try.ntmps16
 go_upto_region 1 with (fail)
 generalize hg : World.alloc _ _ = w1
 replace S := S.new2 hg
 clear hg
 generalize w.heap.size + 1 = p3 at S ⊢
 generalize w.heap.size = p2 at S ⊢
 replace S : Go.Proofs.Ytjccgdnnnlgeeaa.XSt.Kn (fun _ => True) w [(p3, .cells #[.int .i64 a1_0, .int .i64 a1_1, .bool a1_2, .string a1_3, .int .i64 a1_4, .int .i64 a1_5, .int .i64 a1_6, .string a1_7, .int .u64 a1_8, .slice A1_9 l1_9.length c1_9] 27 (0, 0)), (p2, .cells #[.int .i64 a0_0, .int .i64 a0_1, .bool a0_2, .string a0_3, .int .i64 a0_4, .int .i64 a0_5, .int .i64 a0_6, .string a0_7, .int .u64 a0_8, .slice A0_9 l0_9.length c0_9] 27 (0, 0))] Go.Proofs.Ytjccgdnnnlgeeaa.XSt.nil Go.Proofs.Ytjccgdnnnlgeeaa.XSt.tt [Go.Proofs.Ytjccgdnnnlgeeaa.XSt.V k52 (.slice A1_9 l1_9.length c1_9) l1_9, Go.Proofs.Ytjccgdnnnlgeeaa.XSt.V k52 (.slice A0_9 l0_9.length c0_9) l0_9] w1 := S
 have a_0 : w1.cell? ⟨p2, 0, none⟩ = some (.int .i64 a0_0) := S.cell 1 0 rfl rfl
 have a_1 : w1.cell? ⟨p2, 1, none⟩ = some (.int .i64 a0_1) := S.cell 1 1 rfl rfl
 have a_2 : w1.cell? ⟨p2, 2, none⟩ = some (.bool a0_2) := S.cell 1 2 rfl rfl
 have a_3 : w1.cell? ⟨p2, 3, none⟩ = some (.string a0_3) := S.cell 1 3 rfl rfl
 have a_4 : w1.cell? ⟨p2, 4, none⟩ = some (.int .i64 a0_4) := S.cell 1 4 rfl rfl
 have a_5 : w1.cell? ⟨p2, 5, none⟩ = some (.int .i64 a0_5) := S.cell 1 5 rfl rfl
 have a_6 : w1.cell? ⟨p2, 6, none⟩ = some (.int .i64 a0_6) := S.cell 1 6 rfl rfl
 have a_7 : w1.cell? ⟨p2, 7, none⟩ = some (.string a0_7) := S.cell 1 7 rfl rfl
 have a_8 : w1.cell? ⟨p2, 8, none⟩ = some (.int .u64 a0_8) := S.cell 1 8 rfl rfl
 have a_9 : w1.cell? ⟨p2, 9, none⟩ = some (.slice A0_9 l0_9.length c0_9) := S.cell 1 9 rfl rfl
 have b_0 : w1.cell? ⟨p3, 0, none⟩ = some (.int .i64 a1_0) := S.cell 0 0 rfl rfl
 have b_1 : w1.cell? ⟨p3, 1, none⟩ = some (.int .i64 a1_1) := S.cell 0 1 rfl rfl
 have b_2 : w1.cell? ⟨p3, 2, none⟩ = some (.bool a1_2) := S.cell 0 2 rfl rfl
 have b_3 : w1.cell? ⟨p3, 3, none⟩ = some (.string a1_3) := S.cell 0 3 rfl rfl
 have b_4 : w1.cell? ⟨p3, 4, none⟩ = some (.int .i64 a1_4) := S.cell 0 4 rfl rfl
 have b_5 : w1.cell? ⟨p3, 5, none⟩ = some (.int .i64 a1_5) := S.cell 0 5 rfl rfl
 have b_6 : w1.cell? ⟨p3, 6, none⟩ = some (.int .i64 a1_6) := S.cell 0 6 rfl rfl
 have b_7 : w1.cell? ⟨p3, 7, none⟩ = some (.string a1_7) := S.cell 0 7 rfl rfl
 have b_8 : w1.cell? ⟨p3, 8, none⟩ = some (.int .u64 a1_8) := S.cell 0 8 rfl rfl
 have b_9 : w1.cell? ⟨p3, 9, none⟩ = some (.slice A1_9 l1_9.length c1_9) := S.cell 0 9 rfl rfl
 by_cases q0 : a0_0 = a1_0
 rotate_left
 ·rw [if_neg q0] at h
  obtain rfl := Option.some.inj h
  go_wp2
  go_ret
  exact ⟨rfl, S.bel⟩
 rw [if_pos q0] at h
 by_cases q1 : a0_1 = a1_1
 rotate_left
 ·rw [if_neg q1] at h
  obtain rfl := Option.some.inj h
  go_wp2
  go_ret
  exact ⟨rfl, S.bel⟩
 rw [if_pos q1] at h
 cases q2 : (a0_2 == a1_2) with
 | false =>
  rw [q2, if_neg (by simp)] at h
  obtain rfl := Option.some.inj h
  go_wp2
  go_ret
  exact ⟨rfl, S.bel⟩
 | true =>
  rw [q2, if_pos rfl] at h
  by_cases q3 : a0_3.toList = a1_3.toList
  rotate_left
  ·rw [if_neg q3] at h
   obtain rfl := Option.some.inj h
   go_wp2
   go_ret
   exact ⟨rfl, S.bel⟩
  rw [if_pos q3] at h
  cases q4 : (a0_4 == a1_4 && (a0_5 == a1_5 && (a0_6 == a1_6 && (a0_7.toList == a1_7.toList)))) with
  | false =>
   rw [q4, if_neg (by simp)] at h
   obtain rfl := Option.some.inj h
   go_wp2
   go_ret
   exact ⟨rfl, S.bel⟩
  | true =>
   rw [q4, if_pos rfl] at h
   by_cases q5 : a0_8 = a1_8
   rotate_left
   ·rw [if_neg q5] at h
    obtain rfl := Option.some.inj h
    go_wp2
    go_ret
    exact ⟨rfl, S.bel⟩
   rw [if_pos q5] at h
   rcases hX : rollcallref05_Same.f k l0_9 l1_9 with _ | b1
   ·rw [hX] at h; exact absurd h (by simp)
   rw [hX] at h
   simp only [Option.bind_some] at h
   have HX_b1 := Aside0.mk hX
   clear hX
   obtain rfl := Option.some.inj h
   go_wp2_with fail
   refine (rollcallref05_Same.calls k A0_9 c0_9 l0_9 A1_9 c1_9 l1_9 b1 _ (Kd.V_reads' (e := 0) (base := 0) (S.ft 1 rfl)).2.2 (Kd.V_reads' (e := 0) (base := 0) (S.ft 1 rfl)).2.1 (Kd.V_reads' (e := 0) (base := 0) (S.ft 0 rfl)).2.2 (Kd.V_reads' (e := 0) (base := 0) (S.ft 0 rfl)).2.1 HX_b1.out).mono ?_
   rintro e w2 ⟨rfl, hb⟩
   replace S := S.below (by first | exact hb | exact hb.below)
   clear a_0 a_1 a_2 a_3 a_4 a_5 a_6 a_7 a_8 a_9 b_0 b_1 b_2 b_3 b_4 b_5 b_6 b_7 b_8 b_9 hb
   go_wp2
   go_ret
   exact ⟨rfl, S.bel⟩
/-! ### rollcallref02_Open: function 22 -/
def rollcallref02_Open.f (k : Nat) (a0 : ByteArray) : Option (ByteArray × Int) := if (a0.size : Int) < 4 then (some ((⟨#[]⟩ : ByteArray), 2)) else (if 0 ≤ (wrap64 ((a0.size : Int) - 4)) then (if (wrap64 ((a0.size : Int) - 4)) ≤ (a0.size : Int) then ((rollcallref02_Seal.f k (a0.extract 0 ((wrap64 ((a0.size : Int) - 4)) : Int).toNat)).bind fun t237 => (if t237.toList = a0.toList then (some (a0.extract 0 ((wrap64 ((a0.size : Int) - 4)) : Int).toNat, 0)) else (some ((⟨#[]⟩ : ByteArray), 4)))) else (none)) else (none))
set_option maxHeartbeats 8000000 in
set_option maxRecDepth 100000 in
theorem rollcallref02_Open.calls (k : Nat) (a0 : ByteArray) (r1 : ByteArray) (r2 : Int) (w : World) (h : rollcallref02_Open.f k a0 = some (r1, r2)) :
  Calls Try.prog 22 #[.string a0] w fun e w' => e = .returned (.tuple #[.string r1, .int .i64 r2]) ∧ Below w.heap.size w w' := by
 have HB := Aside0.mk (Below.refl w.heap.size w)
 have H : (if (a0.size : Int) < 4 then (some ((⟨#[]⟩ : ByteArray), 2)) else (if 0 ≤ (wrap64 ((a0.size : Int) - 4)) then (if (wrap64 ((a0.size : Int) - 4)) ≤ (a0.size : Int) then ((rollcallref02_Seal.f k (a0.extract 0 ((wrap64 ((a0.size : Int) - 4)) : Int).toNat)).bind fun t237 => (if t237.toList = a0.toList then (some (a0.extract 0 ((wrap64 ((a0.size : Int) - 4)) : Int).toNat, 0)) else (some ((⟨#[]⟩ : ByteArray), 4)))) else (none)) else (none))) = some (r1, r2) := h
 clear h
 by_cases c2 : (a0.size : Int) < 4
 ·rw [if_pos c2] at H
  have c2b0 : decide ((a0.size : Int) < 4) = true := decide_eq_true c2
  have c2b1 : decide (a0.size < 4) = true := decide_eq_true (by omega)
  clear c2
  simp only [Option.some.injEq, Prod.mk.injEq] at H
  obtain ⟨rfl, rfl⟩ := H
  go_enter Try.func22, Try.ntmps22
  go_wp2
  go_ret2
  exact ⟨by first | rfl | (simp [errW_none, errW_some] <;> rfl) | (simp [*, errW_none, errW_some] <;> rfl), by repeat (first | (with_reducible first | exact HB.out | apply below_alloc | apply pw_below_drewN | apply below_drew1) | exact HB.out)⟩
 ·rw [if_neg c2] at H
  have c2b0 : decide ((a0.size : Int) < 4) = false := decide_eq_false c2
  have c2b1 : decide (a0.size < 4) = false := decide_eq_false (by omega)
  clear c2
  obtain ⟨ji3, hji3⟩ : ∃ j_ : Int, (wrap64 ((a0.size : Int) - 4)) = j_ := ⟨_, rfl⟩
  replace H : (if 0 ≤ (ji3) then (if (ji3) ≤ (a0.size : Int) then ((rollcallref02_Seal.f k (a0.extract 0 ((ji3) : Int).toNat)).bind fun t237 => (if t237.toList = a0.toList then (some (a0.extract 0 ((ji3) : Int).toNat, 0)) else (some ((⟨#[]⟩ : ByteArray), 4)))) else (none)) else (none)) = some (r1, r2) := by first | (rw [hji3] at H; exact H) | (simp only [hji3] at H ⊢; exact H)
  have hji3w : (IntKind.i64.wrap ((a0.size : Int) - 4)) = ji3 := (i64_w _).trans hji3
  by_cases c4 : 0 ≤ (ji3)
  ·rw [if_pos c4] at H
   have c4b0 := eq_true c4
   have c4b1 : decide (0 ≤ (ji3)) = true := decide_eq_true c4
   clear c4
   by_cases c5 : (ji3) ≤ (a0.size : Int)
   ·rw [if_pos c5] at H
    have c5b0 := eq_true c5
    have c5b1 : decide ((ji3) ≤ (a0.size : Int)) = true := decide_eq_true c5
    clear c5
    replace H := Option.bind_eq_some_iff.mp H
    obtain ⟨t237, A60, H⟩ := H
    replace H : (if t237.toList = a0.toList then (some (a0.extract 0 ((ji3) : Int).toNat, 0)) else (some ((⟨#[]⟩ : ByteArray), 4))) = some (r1, r2) := H
    have A6 := Aside0.mk A60
    clear A60
    by_cases c7 : t237.toList = a0.toList
    ·rw [if_pos c7] at H
     have c7b0 : (t237.toList == a0.toList) = true := beq_iff_eq.mpr c7
     have c7b1 : (t237.toList != a0.toList) = false := bne_eq_false_iff_eq.mpr c7
     clear c7
     simp only [Option.some.injEq, Prod.mk.injEq] at H
     obtain ⟨rfl, rfl⟩ := H
     go_enter Try.func22, Try.ntmps22
     go_wp2_with (first | ((with_reducible refine gate_callee (f := 19) rfl ?_); refine goesL_ (some 14) rfl rfl Try.func19 (by kernel_rfl) rfl #[.string (a0.extract 0 ((ji3) : Int).toNat)] rfl (by (try simp only [List.map_toArray, List.map_cons, List.map_nil]); first | done | (simp only [hji3]; rfl) | rfl | (simp only [List.length_drop, List.length_take]; rfl)) ?_; (with_reducible refine (rollcallref02_Seal.calls k (a0.extract 0 ((ji3) : Int).toNat) t237 _ A6.out).mono ?_); rintro e w8 ⟨rfl, hb⟩; refine ⟨_, rfl, ?_⟩; replace HB := Aside0.mk (below_step (hS HB.out) hb); (try clear hb); (try clear hb2); (try clear hk); (try clear hi)))
     go_ret2
     exact ⟨by first | rfl | (simp [errW_none, errW_some] <;> rfl) | (simp only [← hji3]; first | rfl | (simp [errW_none, errW_some] <;> rfl)) | (simp [*, errW_none, errW_some] <;> rfl), by repeat (first | (with_reducible first | exact HB.out | apply below_alloc | apply pw_below_drewN | apply below_drew1) | exact HB.out)⟩
    ·rw [if_neg c7] at H
     have c7b0 : (t237.toList == a0.toList) = false := beq_eq_false_iff_ne.mpr c7
     have c7b1 : (t237.toList != a0.toList) = true := bne_iff_ne.mpr c7
     simp only [Option.some.injEq, Prod.mk.injEq] at H
     obtain ⟨rfl, rfl⟩ := H
     go_enter Try.func22, Try.ntmps22
     go_wp2_with (first | ((with_reducible refine gate_callee (f := 19) rfl ?_); refine goesL_ (some 14) rfl rfl Try.func19 (by kernel_rfl) rfl #[.string (a0.extract 0 ((ji3) : Int).toNat)] rfl (by (try simp only [List.map_toArray, List.map_cons, List.map_nil]); first | done | (simp only [hji3]; rfl) | rfl | (simp only [List.length_drop, List.length_take]; rfl)) ?_; (with_reducible refine (rollcallref02_Seal.calls k (a0.extract 0 ((ji3) : Int).toNat) t237 _ A6.out).mono ?_); rintro e w9 ⟨rfl, hb⟩; refine ⟨_, rfl, ?_⟩; replace HB := Aside0.mk (below_step (hS HB.out) hb); (try clear hb); (try clear hb2); (try clear hk); (try clear hi)))
     go_ret2
     exact ⟨by first | rfl | (simp [errW_none, errW_some] <;> rfl) | (simp only [← hji3]; first | rfl | (simp [errW_none, errW_some] <;> rfl)) | (simp [*, errW_none, errW_some] <;> rfl), by repeat (first | (with_reducible first | exact HB.out | apply below_alloc | apply pw_below_drewN | apply below_drew1) | exact HB.out)⟩
   ·rw [if_neg c5] at H
    exact absurd H (by simp)
  ·rw [if_neg c4] at H
   exact absurd H (by simp)

/-! ### rollcallref01_Get: function 43 -/
end Go.Proofs.Ytjccgdnnnlgeeaa.PA
end

section
-- Written by a program of this session (wip/tools/xprint.py), which drives the kit's print.
namespace Go.Proofs.Ytjccgdnnnlgeeaa.PA
open Go.RowKit Go.Proofs.YtjccgdnnnlgeeaaW.PrintWords Go.Proofs.YtjccgdnnnlgeeaaW.PrintLast Go.Proofs.YtjccgdnnnlgeeaaW.PrintMore
attribute [local go_sem] min2_int min_two   -- for this text's walks alone
set_option linter.unusedVariables false
set_option linter.unusedSimpArgs false

/-! ### rollcallref01_Take: function 60 -/
/-! ### rollcallref03_Take: function 44 -/
/-! ### rollcallref04_Take: function 45 -/
def rollcallref04_Take.B13 : List Nat := [0, 0, 3, 7, 0, 0, 32, 112, 240, 496, 0, 1024, 0, 8191, 0, 32767]
end Go.Proofs.Ytjccgdnnnlgeeaa.PA
end

section
-- Written by a program of this session (wip/tools/xprint.py), which drives the kit's print.
namespace Go.Proofs.Ytjccgdnnnlgeeaa.PA
open Go.RowKit Go.Proofs.YtjccgdnnnlgeeaaW.PrintWords Go.Proofs.YtjccgdnnnlgeeaaW.PrintLast Go.Proofs.YtjccgdnnnlgeeaaW.PrintMore
attribute [local go_sem] min2_int min_two   -- for this text's walks alone
set_option linter.unusedVariables false
set_option linter.unusedSimpArgs false

/-! ### rollcallref05_Take: function 46 -/
end Go.Proofs.Ytjccgdnnnlgeeaa.PA
end

section
-- Written by a program of this session (wip/tools/xprint.py), which drives the kit's print.
namespace Go.Proofs.Ytjccgdnnnlgeeaa.PA
open Go.RowKit Go.Proofs.YtjccgdnnnlgeeaaW.PrintWords Go.Proofs.YtjccgdnnnlgeeaaW.PrintLast Go.Proofs.YtjccgdnnnlgeeaaW.PrintMore
attribute [local go_sem] min2_int min_two   -- for this text's walks alone
set_option linter.unusedVariables false
set_option linter.unusedSimpArgs false

/-! ### rollcallref06_read: function 33 -/
def rollcallref06_read.B25 : List Nat := [0, 1, 3, 0, 0, 24, 56, 127, 255, 511]
end Go.Proofs.Ytjccgdnnnlgeeaa.PA
end

section
-- Written by a program of this session (wip/tools/xprint.py), which drives the kit's print.
namespace Go.Proofs.Ytjccgdnnnlgeeaa.PA
open Go.RowKit Go.Proofs.YtjccgdnnnlgeeaaW.PrintWords Go.Proofs.YtjccgdnnnlgeeaaW.PrintLast Go.Proofs.YtjccgdnnnlgeeaaW.PrintMore
attribute [local go_sem] min2_int min_two   -- for this text's walks alone
set_option linter.unusedVariables false
set_option linter.unusedSimpArgs false

/-! ### rollcallref06_Decode: function 18 -/
/-! ### ident_Less: function 72 -/
abbrev ident_Less.f := @Go.Proofs.Ytjccgdnnnlgeeaa.XLess.ident_Less.f
set_option maxHeartbeats 1000000 in
theorem ident_Less.calls (a0 : ByteArray) (a1 : ByteArray) (r : Bool) (w : World) (h : ident_Less.f a0 a1 = some r) :
  Calls Try.prog 72 #[.string a0, .string a1] w fun e w' => e = .returned (.bool r) ∧ Below w.heap.size w w' := Go.Proofs.Ytjccgdnnnlgeeaa.XLess.ident_Less.calls a0 a1 r w h

end Go.Proofs.Ytjccgdnnnlgeeaa.PA
end
