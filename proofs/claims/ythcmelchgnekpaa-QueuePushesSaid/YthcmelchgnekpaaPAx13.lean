-- Written by a program of this session (wip/tools/xprint.py), which drives the kit's print.
import Derived.Test.YthcmelchgnekpaaPAx0
import Derived.Test.YthcmelchgnekpaaPAx4
import Derived.Test.YthcmelchgnekpaaPAx5
import Derived.Test.YthcmelchgnekpaaPAx6
import Derived.Test.YthcmelchgnekpaaPAx8
namespace Go.Proofs.Ythcmelchgnekpaa.PA
open Go.RowKit Go.Proofs.YthcmelchgnekpaaW.PrintWords Go.Proofs.YthcmelchgnekpaaW.PrintLast Go.Proofs.YthcmelchgnekpaaW.PrintMore
attribute [local go_sem] max2_int min2_int max_two min_two max_three min_three max_four min_four   -- for this text's walks alone
set_option linter.unusedVariables false
set_option linter.unusedSimpArgs false

/-! ### rollcallref17_Push: function 27 -/
def rollcallref17_Push.f (k : Nat) (l0_0 : List (S33)) (a0_1 : Bool) (a1_0 : ByteArray) (a1_1 : Bool) (a1_2 : Int) (a1_3 : Int) (a1_4 : Int) (a1_5 : ByteArray) (a2 : Int) : Option ((List (S33)) × Bool) := if a0_1 = true then (some (l0_0, a0_1)) else ((some (([] : List (S33)) : List (S33))).bind fun y373 => (if y373.length + l0_0.length < 2199023255552 then ((some (y373 ++ l0_0 : List (S33))).bind fun y376 => ((rollcallref17_place.f k l0_0 a0_1 a1_0).bind fun t379 => (if t379 ≥ 0 then (if 0 ≤ t379 then (if t379 < (y376.length : Int) then (some ((y376.set (t379 : Int).toNat (⟨a1_0, a1_1, (⟨a1_2, a1_3, a1_4, a1_5⟩ : S31)⟩ : S33)), false)) else (none)) else (none)) else (if (y376.length : Int) < a2 then (if y376.length < 2199023255552 then (some ((y376 ++ [(⟨a1_0, a1_1, (⟨a1_2, a1_3, a1_4, a1_5⟩ : S31)⟩ : S33)]), false)) else (none)) else (some (([] : List (S33)), true)))))) else (none)))
theorem rollcallref17_Push.mono : ∀ a0 a1 a2 a3 a4 a5 a6 a7 a8 k, LeO (rollcallref17_Push.f k a0 a1 a2 a3 a4 a5 a6 a7 a8) (rollcallref17_Push.f (k + 1) a0 a1 a2 a3 a4 a5 a6 a7 a8) := by
  intro a0 a1 a2 a3 a4 a5 a6 a7 a8 k
  unfold rollcallref17_Push.f
  repeat' first
      | (with_reducible exact rollcallref17_place.mono _ _ _ _)
      | (with_reducible exact LeO.refl _)
      | (with_reducible exact LeO.none _)
      | (with_reducible refine LeO.ite ?_ ?_)
      | (with_reducible refine LeO.bind ?_ (fun _ => ?_))
      | exact rollcallref17_place.mono _ _ _ _
      | exact LeO.none _
      | refine LeO.ite ?_ ?_
      | refine LeO.bind ?_ (fun _ => ?_)
set_option maxHeartbeats 8000000 in
set_option maxRecDepth 100000 in
theorem rollcallref17_Push.calls (k : Nat) (P0_0_ : Nat → Prop) (A0_0 : Option Addr) (c0_0 : Nat) (l0_0 : List (S33)) (a0_1 : Bool) (a1_0 : ByteArray) (a1_1 : Bool) (a1_2 : Int) (a1_3 : Int) (a1_4 : Int) (a1_5 : ByteArray) (a2 : Int) (r1 : List (S33)) (r2 : Bool) (w : World) (hs0_0 : Kd.V k33 33 w w.heap.size (fun k_ => P0_0_ k_) (.slice A0_0 l0_0.length c0_0) l0_0) (h : rollcallref17_Push.f k l0_0 a0_1 a1_0 a1_1 a1_2 a1_3 a1_4 a1_5 a2 = some (r1, r2)) :
    Calls Try.prog 27 #[.agg #[.slice A0_0 l0_0.length c0_0, .bool a0_1], .agg #[.string a1_0, .bool a1_1, .int .i64 a1_2, .int .i64 a1_3, .int .i64 a1_4, .string a1_5], .int .i64 a2] w fun e w' => ∃ v0_ : Value, e = .returned (.agg #[v0_, .bool r2]) ∧ Kd.V k33 33 w' w.heap.size (fun k_ => (P0_0_ k_ ∨ w.heap.size ≤ k_)) v0_ r1 ∧ Below w.heap.size w w' := by
  have hu24 := Try.underlying24
  have hu33 := Try.underlying33
  have HO0_0 := Aside0.mk (show Kd.V k33 33 w w.heap.size (fun k_ => (P0_0_ k_ ∨ w.heap.size ≤ k_)) (.slice A0_0 l0_0.length c0_0) l0_0 from Kd.V_mono hs0_0 (fun k_ hk => .inl hk))
  have HB := Aside0.mk (Below.refl w.heap.size w)
  have H : (if a0_1 = true then (some (l0_0, a0_1)) else ((some (([] : List (S33)) : List (S33))).bind fun y373 => (if y373.length + l0_0.length < 2199023255552 then ((some (y373 ++ l0_0 : List (S33))).bind fun y376 => ((rollcallref17_place.f k l0_0 a0_1 a1_0).bind fun t379 => (if t379 ≥ 0 then (if 0 ≤ t379 then (if t379 < (y376.length : Int) then (some ((y376.set (t379 : Int).toNat (⟨a1_0, a1_1, (⟨a1_2, a1_3, a1_4, a1_5⟩ : S31)⟩ : S33)), false)) else (none)) else (none)) else (if (y376.length : Int) < a2 then (if y376.length < 2199023255552 then (some ((y376 ++ [(⟨a1_0, a1_1, (⟨a1_2, a1_3, a1_4, a1_5⟩ : S31)⟩ : S33)]), false)) else (none)) else (some (([] : List (S33)), true)))))) else (none)))) = some (r1, r2) := h
  clear h
  by_cases c4 : a0_1 = true
  · subst c4
    have H1 : (some (l0_0, true)) = some (r1, r2) := by rw [if_pos rfl] at H; exact H
    clear H
    have H := H1
    clear H1
    simp only [Option.some.injEq, Prod.mk.injEq] at H
    obtain ⟨rfl, rfl⟩ := H
    go_enter Try.func27, Try.ntmps27
    go_wp2_with (first | ((with_reducible refine gate_dst (N := 3) rfl ?_); refine box_event ?hg (N := 3) ?hd (cs := #[.slice A0_0 l0_0.length c0_0, .bool true]) (t := 24) ?hr ?_; (case hd => rfl); (case hg => rfl); (case hr => first | (go_simp; done) | (go_simp; rfl)); intro gb370 hg w5 hbox hb; replace HO0_0 := Aside0.mk (Kd.V_below (Kd.V_elderB (vS HO0_0.out) gb370 (Nat.le_of_eq hg.symm)) hb); have BK370 := Aside0.mk (hbox); have GW370 := Aside0.mk ((by rw [hg]; exact (below_size (hS HB.out)) : w.heap.size ≤ gb370)); have GE370 := Aside0.mk ((by rw [hg]; exact (below_size (hS HB.out)) : w.heap.size ≤ gb370)); replace HB := Aside0.mk (below_step (hS HB.out) hb); clear hb hbox hg) | ((with_reducible refine gate_dst (N := 4) rfl ?_); refine box_event ?hg (N := 4) ?hd (cs := #[.string a1_0, .bool a1_1, .int .i64 a1_2, .int .i64 a1_3, .int .i64 a1_4, .string a1_5]) (t := 33) ?hr ?_; (case hd => rfl); (case hg => rfl); (case hr => first | (go_simp; done) | (go_simp; rfl)); intro gb371 hg w6 hbox hb; replace HO0_0 := Aside0.mk (Kd.V_below (Kd.V_elderB (vS HO0_0.out) gb371 (Nat.le_of_eq hg.symm)) hb); have BK371 := Aside0.mk (hbox); have GW371 := Aside0.mk ((by rw [hg]; exact (below_size (hS HB.out)) : w.heap.size ≤ gb371)); have GE371 := Aside0.mk ((by rw [hg]; exact (below_size (hS HB.out)) : w.heap.size ≤ gb371)); replace HB := Aside0.mk (below_step (hS HB.out) hb); have NB370_371 := Aside0.mk ((by rw [hg]; exact Nat.ne_of_lt (blk_lt (bS BK370.out)) : gb370 ≠ gb371)); have NB371_370 := Aside0.mk ((by rw [hg]; exact Nat.ne_of_gt (blk_lt (bS BK370.out)) : gb371 ≠ gb370)); replace BK370 := Aside0.mk (blk_below (bS BK370.out) hb); clear hb hbox hg) | ((with_reducible refine gate_dst (N := 6) rfl ?_); refine box_event ?hg (N := 6) ?hd (cs := #[.slice none 0 0, .bool false]) (t := 24) ?hr ?_; (case hd => rfl); (case hg => rfl); (case hr => first | (go_simp; done) | (go_simp; rfl)); intro gb372 hg w7 hbox hb; replace HO0_0 := Aside0.mk (Kd.V_below (Kd.V_elderB (vS HO0_0.out) gb372 (Nat.le_of_eq hg.symm)) hb); have BK372 := Aside0.mk (hbox); have GW372 := Aside0.mk ((by rw [hg]; exact (below_size (hS HB.out)) : w.heap.size ≤ gb372)); have GE372 := Aside0.mk ((by rw [hg]; exact (below_size (hS HB.out)) : w.heap.size ≤ gb372)); replace HB := Aside0.mk (below_step (hS HB.out) hb); have NB370_372 := Aside0.mk ((by rw [hg]; exact Nat.ne_of_lt (blk_lt (bS BK370.out)) : gb370 ≠ gb372)); have NB372_370 := Aside0.mk ((by rw [hg]; exact Nat.ne_of_gt (blk_lt (bS BK370.out)) : gb372 ≠ gb370)); replace BK370 := Aside0.mk (blk_below (bS BK370.out) hb); have NB371_372 := Aside0.mk ((by rw [hg]; exact Nat.ne_of_lt (blk_lt (bS BK371.out)) : gb371 ≠ gb372)); have NB372_371 := Aside0.mk ((by rw [hg]; exact Nat.ne_of_gt (blk_lt (bS BK371.out)) : gb372 ≠ gb371)); replace BK371 := Aside0.mk (blk_below (bS BK371.out) hb); clear hb hbox hg; have hnb8 := NB370_371.out; have hnc8 := NB371_370.out; have hnb9 := NB370_372.out; have hnc9 := NB372_370.out; have hcz10_0 : w7.cell? ⟨gb370, 0, none⟩ = some (.slice A0_0 l0_0.length c0_0) := (blk_cell BK370.out 0).trans rfl; have hcz10_1 : w7.cell? ⟨gb370, 1, none⟩ = some (.bool true) := (blk_cell BK370.out 1).trans rfl; have hfz10_0 := blk_frozen BK370.out 0; have hfz10_1 := blk_frozen BK370.out 1; have hnb11 := NB372_371.out; have hnc11 := NB371_372.out; have hcz12_0 : w7.cell? ⟨gb372, 0, none⟩ = some (.slice none 0 0) := (blk_cell BK372.out 0).trans rfl; have hcz12_1 : w7.cell? ⟨gb372, 1, none⟩ = some (.bool false) := (blk_cell BK372.out 1).trans rfl; have hfz12_0 := blk_frozen BK372.out 0; have hfz12_1 := blk_frozen BK372.out 1))
    refine bodyPost_ret (results_cell_row rfl _ _ gb372 24 #[.slice A0_0 l0_0.length c0_0, .bool true] (0, 0) _ rfl (bS (blk_put (bS (blk_put (bS BK372.out) 0 _ rfl)) 1 _ rfl)) Try.underlying24 rfl (by kernel_rfl)) rfl ?_
    exact ⟨_, by first | rfl | (simp [errW_none, errW_some] <;> rfl) | (simp [*, errW_none, errW_some] <;> rfl), by (with_reducible repeat (first | apply Kd.V_alloc | apply Kd.V_drewN | apply Kd.V_drew)); exact Kd.V_mono (vF (b := gb372) (Kd.V_mono HO0_0.out (fun k_ hk => (⟨hk, hk.2⟩ : _ ∧ k_ ≠ gb372))) (fun _ hk => hk.2)) (fun _ hk => hk.1.1.1.1), by repeat (first | (with_reducible first | exact HB.out | apply below_alloc | apply pw_below_drewN | apply below_drew1 | refine below_set ?_ GE370.out | refine below_set ?_ GE371.out | refine below_set ?_ GE372.out) | exact HB.out)⟩
  · replace c4 := Bool.eq_false_iff.mpr c4
    subst c4
    have H1 : ((some (([] : List (S33)) : List (S33))).bind fun y373 => (if y373.length + l0_0.length < 2199023255552 then ((some (y373 ++ l0_0 : List (S33))).bind fun y376 => ((rollcallref17_place.f k l0_0 false a1_0).bind fun t379 => (if t379 ≥ 0 then (if 0 ≤ t379 then (if t379 < (y376.length : Int) then (some ((y376.set (t379 : Int).toNat (⟨a1_0, a1_1, (⟨a1_2, a1_3, a1_4, a1_5⟩ : S31)⟩ : S33)), false)) else (none)) else (none)) else (if (y376.length : Int) < a2 then (if y376.length < 2199023255552 then (some ((y376 ++ [(⟨a1_0, a1_1, (⟨a1_2, a1_3, a1_4, a1_5⟩ : S31)⟩ : S33)]), false)) else (none)) else (some (([] : List (S33)), true)))))) else (none))) = some (r1, r2) := by rw [if_neg (show ¬ (false = true) by decide)] at H; exact H
    clear H
    have H := H1
    clear H1
    obtain ⟨y373, hy373⟩ : ∃ y_ : List (S33), y_ = (([] : List (S33))) := ⟨_, rfl⟩
    replace H : (if y373.length + l0_0.length < 2199023255552 then ((some (y373 ++ l0_0 : List (S33))).bind fun y376 => ((rollcallref17_place.f k l0_0 false a1_0).bind fun t379 => (if t379 ≥ 0 then (if 0 ≤ t379 then (if t379 < (y376.length : Int) then (some ((y376.set (t379 : Int).toNat (⟨a1_0, a1_1, (⟨a1_2, a1_3, a1_4, a1_5⟩ : S31)⟩ : S33)), false)) else (none)) else (none)) else (if (y376.length : Int) < a2 then (if y376.length < 2199023255552 then (some ((y376 ++ [(⟨a1_0, a1_1, (⟨a1_2, a1_3, a1_4, a1_5⟩ : S31)⟩ : S33)]), false)) else (none)) else (some (([] : List (S33)), true)))))) else (none)) = some (r1, r2) := by first | (rw [hy373]; with_reducible exact H) | (have H2_ := (Option.bind_some _ _).symm.trans H; rw [hy373]; with_reducible exact H2_) | (have H2_ := (Option.bind_some _ _).symm.trans H; with_reducible exact H2_) | with_reducible exact H | (rw [hy373]; exact H) | exact H
    have Ny373 := Aside0.mk hy373
    clear hy373
    by_cases c13 : y373.length + l0_0.length < 2199023255552
    · rw [if_pos c13] at H
      have LMc13 := Aside0.mk c13
      clear c13
      obtain ⟨y376, hy376⟩ : ∃ y_ : List (S33), y_ = (y373 ++ l0_0) := ⟨_, rfl⟩
      replace H : ((rollcallref17_place.f k l0_0 false a1_0).bind fun t379 => (if t379 ≥ 0 then (if 0 ≤ t379 then (if t379 < (y376.length : Int) then (some ((y376.set (t379 : Int).toNat (⟨a1_0, a1_1, (⟨a1_2, a1_3, a1_4, a1_5⟩ : S31)⟩ : S33)), false)) else (none)) else (none)) else (if (y376.length : Int) < a2 then (if y376.length < 2199023255552 then (some ((y376 ++ [(⟨a1_0, a1_1, (⟨a1_2, a1_3, a1_4, a1_5⟩ : S31)⟩ : S33)]), false)) else (none)) else (some (([] : List (S33)), true))))) = some (r1, r2) := by first | (rw [hy376]; with_reducible exact H) | (have H2_ := (Option.bind_some _ _).symm.trans H; rw [hy376]; with_reducible exact H2_) | (have H2_ := (Option.bind_some _ _).symm.trans H; with_reducible exact H2_) | with_reducible exact H | (rw [hy376]; exact H) | exact H
      have Ny376 := Aside0.mk hy376
      clear hy376
      replace H := Option.bind_eq_some_iff.mp H
      obtain ⟨t379, A140, H⟩ := H
      replace H : (if t379 ≥ 0 then (if 0 ≤ t379 then (if t379 < (y376.length : Int) then (some ((y376.set (t379 : Int).toNat (⟨a1_0, a1_1, (⟨a1_2, a1_3, a1_4, a1_5⟩ : S31)⟩ : S33)), false)) else (none)) else (none)) else (if (y376.length : Int) < a2 then (if y376.length < 2199023255552 then (some ((y376 ++ [(⟨a1_0, a1_1, (⟨a1_2, a1_3, a1_4, a1_5⟩ : S31)⟩ : S33)]), false)) else (none)) else (some (([] : List (S33)), true)))) = some (r1, r2) := H
      have A14 := Aside0.mk A140
      clear A140
      by_cases c15 : t379 ≥ 0
      · rw [if_pos c15] at H
        have c15b0 : decide (0 ≤ t379) = true := decide_eq_true c15
        clear c15
        by_cases c16 : 0 ≤ t379
        · rw [if_pos c16] at H
          have c16b0 : decide (0 ≤ t379) = true := decide_eq_true c16
          clear c16
          by_cases c17 : t379 < (y376.length : Int)
          · rw [if_pos c17] at H
            have c17b0 : decide (t379 < (y376.length : Int)) = true := decide_eq_true c17
            clear c17
            obtain ⟨y380, hy380⟩ : ∃ y_ : List (S33), y_ = (y376.set (t379 : Int).toNat (⟨a1_0, a1_1, (⟨a1_2, a1_3, a1_4, a1_5⟩ : S31)⟩ : S33)) := ⟨_, rfl⟩
            replace H : (some (y380, false)) = some (r1, r2) := by first | (rw [hy380]; with_reducible exact H) | (have H2_ := (Option.bind_some _ _).symm.trans H; rw [hy380]; with_reducible exact H2_) | (have H2_ := (Option.bind_some _ _).symm.trans H; with_reducible exact H2_) | with_reducible exact H | (rw [hy380]; exact H) | exact H
            have Ny380 := Aside0.mk hy380
            clear hy380
            simp only [Option.some.injEq, Prod.mk.injEq] at H
            obtain ⟨rfl, rfl⟩ := H
            go_enter Try.func27, Try.ntmps27
            go_wp2_with (first | ((with_reducible refine gate_dst (N := 3) rfl ?_); refine box_event ?hg (N := 3) ?hd (cs := #[.slice A0_0 l0_0.length c0_0, .bool false]) (t := 24) ?hr ?_; (case hd => rfl); (case hg => rfl); (case hr => first | (go_simp; done) | (go_simp; rfl)); intro gb370 hg w19 hbox hb; replace HO0_0 := Aside0.mk (Kd.V_below (Kd.V_elderB (vS HO0_0.out) gb370 (Nat.le_of_eq hg.symm)) hb); have BK370 := Aside0.mk (hbox); have GW370 := Aside0.mk ((by rw [hg]; exact (below_size (hS HB.out)) : w.heap.size ≤ gb370)); have GE370 := Aside0.mk ((by rw [hg]; exact (below_size (hS HB.out)) : w.heap.size ≤ gb370)); replace HB := Aside0.mk (below_step (hS HB.out) hb); clear hb hbox hg) | ((with_reducible refine gate_dst (N := 4) rfl ?_); refine box_event ?hg (N := 4) ?hd (cs := #[.string a1_0, .bool a1_1, .int .i64 a1_2, .int .i64 a1_3, .int .i64 a1_4, .string a1_5]) (t := 33) ?hr ?_; (case hd => rfl); (case hg => rfl); (case hr => first | (go_simp; done) | (go_simp; rfl)); intro gb371 hg w20 hbox hb; replace HO0_0 := Aside0.mk (Kd.V_below (Kd.V_elderB (vS HO0_0.out) gb371 (Nat.le_of_eq hg.symm)) hb); have BK371 := Aside0.mk (hbox); have GW371 := Aside0.mk ((by rw [hg]; exact (below_size (hS HB.out)) : w.heap.size ≤ gb371)); have GE371 := Aside0.mk ((by rw [hg]; exact (below_size (hS HB.out)) : w.heap.size ≤ gb371)); replace HB := Aside0.mk (below_step (hS HB.out) hb); have NB370_371 := Aside0.mk ((by rw [hg]; exact Nat.ne_of_lt (blk_lt (bS BK370.out)) : gb370 ≠ gb371)); have NB371_370 := Aside0.mk ((by rw [hg]; exact Nat.ne_of_gt (blk_lt (bS BK370.out)) : gb371 ≠ gb370)); replace BK370 := Aside0.mk (blk_below (bS BK370.out) hb); clear hb hbox hg) | ((with_reducible refine gate_dst (N := 6) rfl ?_); refine box_event ?hg (N := 6) ?hd (cs := #[.slice none 0 0, .bool false]) (t := 24) ?hr ?_; (case hd => rfl); (case hg => rfl); (case hr => first | (go_simp; done) | (go_simp; rfl)); intro gb372 hg w21 hbox hb; replace HO0_0 := Aside0.mk (Kd.V_below (Kd.V_elderB (vS HO0_0.out) gb372 (Nat.le_of_eq hg.symm)) hb); have BK372 := Aside0.mk (hbox); have GW372 := Aside0.mk ((by rw [hg]; exact (below_size (hS HB.out)) : w.heap.size ≤ gb372)); have GE372 := Aside0.mk ((by rw [hg]; exact (below_size (hS HB.out)) : w.heap.size ≤ gb372)); replace HB := Aside0.mk (below_step (hS HB.out) hb); have NB370_372 := Aside0.mk ((by rw [hg]; exact Nat.ne_of_lt (blk_lt (bS BK370.out)) : gb370 ≠ gb372)); have NB372_370 := Aside0.mk ((by rw [hg]; exact Nat.ne_of_gt (blk_lt (bS BK370.out)) : gb372 ≠ gb370)); replace BK370 := Aside0.mk (blk_below (bS BK370.out) hb); have NB371_372 := Aside0.mk ((by rw [hg]; exact Nat.ne_of_lt (blk_lt (bS BK371.out)) : gb371 ≠ gb372)); have NB372_371 := Aside0.mk ((by rw [hg]; exact Nat.ne_of_gt (blk_lt (bS BK371.out)) : gb372 ≠ gb371)); replace BK371 := Aside0.mk (blk_below (bS BK371.out) hb); clear hb hbox hg; have hnb22 := NB370_371.out; have hnc22 := NB371_370.out; have hnb23 := NB370_372.out; have hnc23 := NB372_370.out; have hcz24_0 : w21.cell? ⟨gb370, 0, none⟩ = some (.slice A0_0 l0_0.length c0_0) := (blk_cell BK370.out 0).trans rfl; have hcz24_1 : w21.cell? ⟨gb370, 1, none⟩ = some (.bool false) := (blk_cell BK370.out 1).trans rfl; have hfz24_0 := blk_frozen BK370.out 0; have hfz24_1 := blk_frozen BK370.out 1) | ((with_reducible refine gate_dst (N := 12) rfl ?_); refine Kd.R_lit k33 _ 33 ?hg (N := 12) ?hd (xs := ([] : List (S33))) (inner := []) (ok := fun _ => True) (okp := fun _ => True) ?hr ?hp (fun _ hk => hk) trivial (Below.refl _ _) (Nat.le_refl _) (by simp) ?_; (case hd => rfl); (case hg => rfl); (case hr => first | (go_simp; done) | (go_simp; rfl)); (case hp => exact (Reps.none _ _)); intro v374 w25 ho26 hb hg_ hnew_; clear hg_ hnew_; (first | rw [← Ny373.out] at ho26 | (simp only [Int.reduceToNat] at ho26; rw [← Ny373.out] at ho26)); replace HO0_0 := Aside0.mk (Kd.V_elder' (vS HO0_0.out) (Kd.R_base ho26) hb); have HO375 := Aside0.mk (Kd.R_lower (Kd.R_newB (Kd.R_newM (M := fun k_ => (w.heap.size ≤ k_)) ho26 (below_size (hS HB.out)) (fun k_ h_ => h_)) (bS BK371.out)) (below_size (hS HB.out))); replace BK370 := Aside0.mk (blk_below (bS BK370.out) hb); replace BK371 := Aside0.mk (blk_below (bS BK371.out) hb); replace BK372 := Aside0.mk (blk_below (bS BK372.out) hb); replace HB := Aside0.mk (below_step (hS HB.out) hb); clear hb ho26; have hcz27_0 : w25.cell? ⟨gb370, 0, none⟩ = some (.slice A0_0 l0_0.length c0_0) := (blk_cell BK370.out 0).trans rfl; have hcz27_1 : w25.cell? ⟨gb370, 1, none⟩ = some (.bool false) := (blk_cell BK370.out 1).trans rfl; have hfz27_0 := blk_frozen BK370.out 0; have hfz27_1 := blk_frozen BK370.out 1) | ((with_reducible refine gate_builtin (b := .append) (xs := #[.tmp 12, .tmp 14]) rfl ?_); at_builtin; refine Kd.R_append_rows k33 (w0 := w) w.heap.size rfl (.tmp 12) (.tmp 14) 22 33 (.agg #[(.string ⟨#[]⟩), (.bool false), (.int .i64 0), (.int .i64 0), (.int .i64 0), (.string ⟨#[]⟩)]) 64 rfl Try.underlying22 info33 rfl (by decide) (by omega) v374 y373 l0_0 _ _ _ (fun k_ => (w.heap.size ≤ k_) ∧ k_ ≠ gb371) (fun _ => False) rfl rfl ?aO ?aR (fun _ _ h => h) (fun _ h => h.elim) ?aF ?aB ?aS ?aL ?_; (case aR => repeat (first | exact (Kd.V_reads' HO0_0.out).2.2 | (with_reducible refine Kd.C_alloc ?_ _) | (with_reducible refine Kd.C_drewN ?_ _) | (with_reducible refine Kd.C_drew ?_))); (case aB => exact (hS HB.out)); (case aF => exact (fun k_ hk => ⟨(Nat.le_trans (below_size (hS HB.out)) hk), Kd.freshB (bS BK371.out) k_ hk⟩)); (case aO => exact (by (with_reducible repeat (first | apply Kd.R_alloc | apply Kd.R_drewN | apply Kd.R_drew)); exact Kd.R_mono HO375.out (fun _ hk => ⟨hk.1.1, hk.2⟩))); (case aS => exact (below_size (hS HB.out))); (case aL => have := LMc13.out; omega); intro v377 w28 ho hb hg hat; rw [← Ny376.out] at ho; replace HO0_0 := Aside0.mk (Kd.V_afterv (ok := (fun k_ => (P0_0_ k_ ∨ w.heap.size ≤ k_) ∧ k_ ≠ gb370 ∧ k_ ≠ gb371 ∧ k_ ≠ gb372)) (by (with_reducible repeat (first | apply Kd.V_alloc | apply Kd.V_drewN | apply Kd.V_drew)); exact Kd.V_mono HO0_0.out (fun _ hk => ⟨⟨hk.1.1.1.1, ⟨hk.1.1.1.2, ⟨hk.1.1.2, hk.1.2⟩⟩⟩, hk.2⟩)) hg hat); replace BK370 := Aside0.mk (blk_grown (bS BK370.out) hg (Kd.R_ne HO375.out BK370.out (by decide))); replace BK371 := Aside0.mk (blk_grown (bS BK371.out) hg (Kd.R_away HO375.out (fun _ hk => hk.2))); replace BK372 := Aside0.mk (blk_grown (bS BK372.out) hg (Kd.R_ne HO375.out BK372.out (by decide))); replace HB := Aside0.mk (hb); have HO378 := Aside0.mk (ho); clear HO375; clear ho hb hg hat; have hcz29_0 : w28.cell? ⟨gb370, 0, none⟩ = some (.slice A0_0 l0_0.length c0_0) := (blk_cell BK370.out 0).trans rfl; have hcz29_1 : w28.cell? ⟨gb370, 1, none⟩ = some (.bool false) := (blk_cell BK370.out 1).trans rfl; have hfz29_0 := blk_frozen BK370.out 0; have hfz29_1 := blk_frozen BK370.out 1; have hnb30 := NB371_372.out; have hnc30 := NB372_371.out; have hcz31_0 : w28.cell? ⟨gb371, 0, none⟩ = some (.string a1_0) := (blk_cell BK371.out 0).trans rfl; have hcz31_1 : w28.cell? ⟨gb371, 1, none⟩ = some (.bool a1_1) := (blk_cell BK371.out 1).trans rfl; have hcz31_2 : w28.cell? ⟨gb371, 2, none⟩ = some (.int .i64 a1_2) := (blk_cell BK371.out 2).trans rfl; have hcz31_3 : w28.cell? ⟨gb371, 3, none⟩ = some (.int .i64 a1_3) := (blk_cell BK371.out 3).trans rfl; have hcz31_4 : w28.cell? ⟨gb371, 4, none⟩ = some (.int .i64 a1_4) := (blk_cell BK371.out 4).trans rfl; have hcz31_5 : w28.cell? ⟨gb371, 5, none⟩ = some (.string a1_5) := (blk_cell BK371.out 5).trans rfl; have hfz31_0 := blk_frozen BK371.out 0; have hfz31_1 := blk_frozen BK371.out 1; have hfz31_2 := blk_frozen BK371.out 2; have hfz31_3 := blk_frozen BK371.out 3; have hfz31_4 := blk_frozen BK371.out 4; have hfz31_5 := blk_frozen BK371.out 5) | ((with_reducible refine gate_callee (f := 36) rfl ?_); refine goesL_ (some 19) rfl rfl Try.func36 (by kernel_rfl) rfl #[.agg #[.slice A0_0 l0_0.length c0_0, .bool false], .string a1_0] rfl (by (try simp only [List.map_toArray, List.map_cons, List.map_nil]); first | done | rfl | (simp only [List.length_drop, List.length_take]; rfl)) ?_; (with_reducible refine (rollcallref17_place.calls k _ _ l0_0 false a1_0 t379 _ ?side1 ?side2 A14.out).mono ?_); (case side1 => repeat (first | exact (Kd.V_reads' HO0_0.out).2.2 | (with_reducible refine Kd.C_alloc ?_ _) | (with_reducible refine Kd.C_drewN ?_ _) | (with_reducible refine Kd.C_drew ?_))); (case side2 => exact (Kd.V_reads' HO0_0.out).2.1); rintro e w32 ⟨rfl, hb⟩; refine ⟨_, rfl, ?_⟩; replace HO0_0 := Aside0.mk (Kd.V_below (vS HO0_0.out) hb); replace HO378 := Aside0.mk (Kd.R_below (rS HO378.out) hb); replace BK370 := Aside0.mk (blk_below (bS BK370.out) hb); replace BK371 := Aside0.mk (blk_below (bS BK371.out) hb); replace BK372 := Aside0.mk (blk_below (bS BK372.out) hb); replace HB := Aside0.mk (below_step (hS HB.out) hb); (try clear hb); (try clear hb2); (try clear hk); (try clear hi); have hcz33_0 : w32.cell? ⟨gb371, 0, none⟩ = some (.string a1_0) := (blk_cell BK371.out 0).trans rfl; have hcz33_1 : w32.cell? ⟨gb371, 1, none⟩ = some (.bool a1_1) := (blk_cell BK371.out 1).trans rfl; have hcz33_2 : w32.cell? ⟨gb371, 2, none⟩ = some (.int .i64 a1_2) := (blk_cell BK371.out 2).trans rfl; have hcz33_3 : w32.cell? ⟨gb371, 3, none⟩ = some (.int .i64 a1_3) := (blk_cell BK371.out 3).trans rfl; have hcz33_4 : w32.cell? ⟨gb371, 4, none⟩ = some (.int .i64 a1_4) := (blk_cell BK371.out 4).trans rfl; have hcz33_5 : w32.cell? ⟨gb371, 5, none⟩ = some (.string a1_5) := (blk_cell BK371.out 5).trans rfl; have hfz33_0 := blk_frozen BK371.out 0; have hfz33_1 := blk_frozen BK371.out 1; have hfz33_2 := blk_frozen BK371.out 2; have hfz33_3 := blk_frozen BK371.out 3; have hfz33_4 := blk_frozen BK371.out 4; have hfz33_5 := blk_frozen BK371.out 5; have p18 : 0 ≤ (t379 : Int) := of_decide_eq_true (by first | (with_reducible assumption) | assumption); have q18 : (t379 : Int) < ((y376.length : Int) : Int) := of_decide_eq_true (by first | (with_reducible assumption) | assumption); obtain ⟨go18, co18, eo18, gb18, gl18, cl18, HG18⟩ := Kd.R_form HO378.out (by omega); (first | cases eo18 | (injection eo18 with ea_ en_ ec_; (first | subst ea_ | (injection ea_ with ea_; subst ea_)); subst ec_; clear en_)); have GB18 := Aside0.mk gb18; have GG18 := Aside0.mk HG18; clear gb18 gl18 HG18; obtain ⟨ce18, hcl18, hM18, hcc18, hfr18⟩ := Kd.R_elem HO378.out z33 (t379 : Int) p18 q18; obtain rfl := k33_openM hM18; have hx18_0 : w32.cell? ⟨go18, (t379 : Int).toNat * 6, none⟩ = some (.string ((rd_T33 y376 t379).f0)) := hcc18 0 _ rfl; have hx18_1 : w32.cell? ⟨go18, (t379 : Int).toNat * 6 + 1, none⟩ = some (.bool ((rd_T33 y376 t379).f1)) := hcc18 1 _ rfl; have hx18_2 : w32.cell? ⟨go18, (t379 : Int).toNat * 6 + 2, none⟩ = some (.int .i64 ((rd_T33 y376 t379).f2.f0)) := hcc18 2 _ rfl; have hx18_3 : w32.cell? ⟨go18, (t379 : Int).toNat * 6 + 3, none⟩ = some (.int .i64 ((rd_T33 y376 t379).f2.f1)) := hcc18 3 _ rfl; have hx18_4 : w32.cell? ⟨go18, (t379 : Int).toNat * 6 + 4, none⟩ = some (.int .i64 ((rd_T33 y376 t379).f2.f2)) := hcc18 4 _ rfl; have hx18_5 : w32.cell? ⟨go18, (t379 : Int).toNat * 6 + 5, none⟩ = some (.string ((rd_T33 y376 t379).f2.f3)) := hcc18 5 _ rfl; have hf18_0 : w32.frozen? ⟨go18, (t379 : Int).toNat * 6, none⟩ = false := hfr18 0; have hf18_1 : w32.frozen? ⟨go18, (t379 : Int).toNat * 6 + 1, none⟩ = false := hfr18 1; have hf18_2 : w32.frozen? ⟨go18, (t379 : Int).toNat * 6 + 2, none⟩ = false := hfr18 2; have hf18_3 : w32.frozen? ⟨go18, (t379 : Int).toNat * 6 + 3, none⟩ = false := hfr18 3; have hf18_4 : w32.frozen? ⟨go18, (t379 : Int).toNat * 6 + 4, none⟩ = false := hfr18 4; have hf18_5 : w32.frozen? ⟨go18, (t379 : Int).toNat * 6 + 5, none⟩ = false := hfr18 5; clear hcl18 hcc18 hfr18 hM18; replace p18 := eq_true p18; replace q18 := eq_true q18; have HX34 := Aside0.mk (show Kd.R k33 33 w32 w.heap.size (fun k_ => (w.heap.size ≤ k_) ∧ k_ ≠ gb371) (.slice (some ⟨go18, 0, none⟩) y376.length co18) y376 from (rS HO378.out)); obtain ⟨ce34, hcl34, hM34, hcc34, hfr34⟩ := Kd.R_elem HX34.out z33 (t379 : Int) (of_decide_eq_true (by first | (with_reducible assumption) | assumption)) (by have h_ : (t379 : Int) < ((y376.length : Int) : Int) := of_decide_eq_true (by first | (with_reducible assumption) | assumption); first | exact h_ | (have e_ := (Kd.R_reads' HO378.out).1; omega) | simpa using h_); obtain rfl := k33_openM hM34; have HP34 := Kd.R_seg HX34.out (t379 : Int) (of_decide_eq_true (by first | (with_reducible assumption) | assumption)) (by have h_ : (t379 : Int) < ((y376.length : Int) : Int) := of_decide_eq_true (by first | (with_reducible assumption) | assumption); first | exact h_ | (have e_ := (Kd.R_reads' HO378.out).1; omega) | simpa using h_) (seg := [.string a1_0, .bool a1_1, .int .i64 a1_2, .int .i64 a1_3, .int .i64 a1_4, .string a1_5]) (j := 0) hcl34 hcc34 (show 6 ≤ 6 from by decide) (x' := (⟨a1_0, a1_1, (⟨a1_2, a1_3, a1_4, a1_5⟩ : S31)⟩ : S33)) (k33_mkM _ _ _ (⟨a1_0, a1_1, (⟨a1_2, a1_3, a1_4, a1_5⟩ : S31)⟩ : S33) ) (fun _ hk => hk); have hx34_0 := hcc34 0 _ rfl; (try simp only [show (k33).sz = 6 from rfl, Nat.mul_one, Nat.add_zero] at hx34_0); have hf34_0 := hfr34 0; (try simp only [show (k33).sz = 6 from rfl, Nat.mul_one, Nat.add_zero] at hf34_0); have hx34_1 := hcc34 1 _ rfl; (try simp only [show (k33).sz = 6 from rfl, Nat.mul_one, Nat.add_zero] at hx34_1); have hf34_1 := hfr34 1; (try simp only [show (k33).sz = 6 from rfl, Nat.mul_one, Nat.add_zero] at hf34_1); have hx34_2 := hcc34 2 _ rfl; (try simp only [show (k33).sz = 6 from rfl, Nat.mul_one, Nat.add_zero] at hx34_2); have hf34_2 := hfr34 2; (try simp only [show (k33).sz = 6 from rfl, Nat.mul_one, Nat.add_zero] at hf34_2); have hx34_3 := hcc34 3 _ rfl; (try simp only [show (k33).sz = 6 from rfl, Nat.mul_one, Nat.add_zero] at hx34_3); have hf34_3 := hfr34 3; (try simp only [show (k33).sz = 6 from rfl, Nat.mul_one, Nat.add_zero] at hf34_3); have hx34_4 := hcc34 4 _ rfl; (try simp only [show (k33).sz = 6 from rfl, Nat.mul_one, Nat.add_zero] at hx34_4); have hf34_4 := hfr34 4; (try simp only [show (k33).sz = 6 from rfl, Nat.mul_one, Nat.add_zero] at hf34_4); have hx34_5 := hcc34 5 _ rfl; (try simp only [show (k33).sz = 6 from rfl, Nat.mul_one, Nat.add_zero] at hx34_5); have hf34_5 := hfr34 5; (try simp only [show (k33).sz = 6 from rfl, Nat.mul_one, Nat.add_zero] at hf34_5); clear hcl34 hcc34 hfr34 hM34) | ((with_reducible refine gate_store (t := 33) (p := 25) rfl ?_); refine store_event (t := 33) (p := 25) (v := ?vo_w35) (w1 := ((((((w32.setCell ⟨go18, (t379 : Int).toNat * 6, none⟩ (.string a1_0)).setCell ⟨go18, (t379 : Int).toNat * 6 + 1, none⟩ (.bool a1_1)).setCell ⟨go18, (t379 : Int).toNat * 6 + 2, none⟩ (.int .i64 a1_2)).setCell ⟨go18, (t379 : Int).toNat * 6 + 3, none⟩ (.int .i64 a1_3)).setCell ⟨go18, (t379 : Int).toNat * 6 + 4, none⟩ (.int .i64 a1_4)).setCell ⟨go18, (t379 : Int).toNat * 6 + 5, none⟩ (.string a1_5))) ?hg ?ho ?hn ?hr ?_; (case ho => rfl); (case hg => rfl); (case hn => rfl); (case hr => first | (go_simp; done) | (go_simp; rfl)); intro w35 hw; have hg : w32.grownBy w35 (some go18) := (by rw [hw]; exact HP34.2); have hp_ : Kd.R k33 33 w35 w.heap.size (fun k_ => (w.heap.size ≤ k_) ∧ k_ ≠ gb371) (.slice (some ⟨go18, 0, none⟩) y376.length co18) y380 := (by rw [hw, Ny380.out]; exact HP34.1); clear HP34; replace HO0_0 := Aside0.mk (Kd.V_afterv (v := (.slice (some ⟨go18, 0, none⟩) y376.length co18)) (v1 := (.slice (some ⟨go18, 0, none⟩) y376.length co18)) (ok := (fun k_ => (P0_0_ k_ ∨ w.heap.size ≤ k_) ∧ k_ ≠ gb370 ∧ k_ ≠ gb371 ∧ k_ ≠ gb372)) (vS HO0_0.out) hg (.inl rfl)); replace BK370 := Aside0.mk (blk_grown (bS BK370.out) hg (Kd.R_ne HO378.out BK370.out (by decide))); replace BK371 := Aside0.mk (blk_grown (bS BK371.out) hg (Kd.R_away HO378.out (fun _ hk => hk.2))); replace BK372 := Aside0.mk (blk_grown (bS BK372.out) hg (Kd.R_ne HO378.out BK372.out (by decide))); replace HO378 := Aside0.mk (hp_); replace HB := Aside0.mk ((by rw [hw]; exact below_set (below_set (below_set (below_set (below_set (below_set (HB.out) GB18.out) GB18.out) GB18.out) GB18.out) GB18.out) GB18.out : Below w.heap.size w w35)); clear hg hw hp_; have hcz36_0 : w35.cell? ⟨gb372, 0, none⟩ = some (.slice none 0 0) := (blk_cell BK372.out 0).trans rfl; have hcz36_1 : w35.cell? ⟨gb372, 1, none⟩ = some (.bool false) := (blk_cell BK372.out 1).trans rfl; have hfz36_0 := blk_frozen BK372.out 0; have hfz36_1 := blk_frozen BK372.out 1))
            refine bodyPost_ret (results_cell_row rfl _ _ gb372 24 #[.slice (some ⟨go18, 0, none⟩) y376.length co18, .bool false] (0, 0) _ rfl (bS (blk_put (bS (blk_put (bS BK372.out) 0 _ rfl)) 1 _ rfl)) Try.underlying24 rfl (by kernel_rfl)) rfl ?_
            exact ⟨_, by first | rfl | (simp [errW_none, errW_some] <;> rfl) | (simp [*, errW_none, errW_some] <;> rfl), Kd.V_mono (Kd.R_V (by (with_reducible repeat (first | apply Kd.R_alloc | apply Kd.R_drewN | apply Kd.R_drew)); exact Kd.R_mono (Kd.R_far (p := ⟨gb372, 1, none⟩) (Kd.R_far (p := ⟨gb372, 0, none⟩) (Kd.R_types HO378.out BK372.out (by decide)) (fun _ hk => hk.2) (.slice (some ⟨go18, 0, none⟩) y376.length co18)) (fun _ hk => hk.2) (.bool false)) (fun _ hk => hk.1.1))) (fun k_ hk => by first | exact ⟨(.inr (hk.1)), hk.2⟩ | exact (.inr (hk))), by repeat (first | (with_reducible first | exact HB.out | apply below_alloc | apply pw_below_drewN | apply below_drew1 | refine below_set ?_ GE370.out | refine below_set ?_ GE371.out | refine below_set ?_ GE372.out) | exact HB.out)⟩
          · rw [if_neg c17] at H
            exact absurd H (by simp)
        · rw [if_neg c16] at H
          exact absurd H (by simp)
      · rw [if_neg c15] at H
        have c15b0 : decide (0 ≤ t379) = false := decide_eq_false c15
        clear c15
        by_cases c37 : (y376.length : Int) < a2
        · rw [if_pos c37] at H
          have c37b0 : decide ((y376.length : Int) < a2) = true := decide_eq_true c37
          clear c37
          by_cases c38 : y376.length < 2199023255552
          · rw [if_pos c38] at H
            have LMc38 := Aside0.mk c38
            clear c38
            obtain ⟨y381, hy381⟩ : ∃ y_ : List (S33), y_ = (y376 ++ [(⟨a1_0, a1_1, (⟨a1_2, a1_3, a1_4, a1_5⟩ : S31)⟩ : S33)]) := ⟨_, rfl⟩
            replace H : (some (y381, false)) = some (r1, r2) := by first | (rw [hy381]; with_reducible exact H) | (have H2_ := (Option.bind_some _ _).symm.trans H; rw [hy381]; with_reducible exact H2_) | (have H2_ := (Option.bind_some _ _).symm.trans H; with_reducible exact H2_) | with_reducible exact H | (rw [hy381]; exact H) | exact H
            have Ny381 := Aside0.mk hy381
            clear hy381
            simp only [Option.some.injEq, Prod.mk.injEq] at H
            obtain ⟨rfl, rfl⟩ := H
            go_enter Try.func27, Try.ntmps27
            go_wp2_with (first | ((with_reducible refine gate_dst (N := 3) rfl ?_); refine box_event ?hg (N := 3) ?hd (cs := #[.slice A0_0 l0_0.length c0_0, .bool false]) (t := 24) ?hr ?_; (case hd => rfl); (case hg => rfl); (case hr => first | (go_simp; done) | (go_simp; rfl)); intro gb370 hg w39 hbox hb; replace HO0_0 := Aside0.mk (Kd.V_below (Kd.V_elderB (vS HO0_0.out) gb370 (Nat.le_of_eq hg.symm)) hb); have BK370 := Aside0.mk (hbox); have GW370 := Aside0.mk ((by rw [hg]; exact (below_size (hS HB.out)) : w.heap.size ≤ gb370)); have GE370 := Aside0.mk ((by rw [hg]; exact (below_size (hS HB.out)) : w.heap.size ≤ gb370)); replace HB := Aside0.mk (below_step (hS HB.out) hb); clear hb hbox hg) | ((with_reducible refine gate_dst (N := 4) rfl ?_); refine box_event ?hg (N := 4) ?hd (cs := #[.string a1_0, .bool a1_1, .int .i64 a1_2, .int .i64 a1_3, .int .i64 a1_4, .string a1_5]) (t := 33) ?hr ?_; (case hd => rfl); (case hg => rfl); (case hr => first | (go_simp; done) | (go_simp; rfl)); intro gb371 hg w40 hbox hb; replace HO0_0 := Aside0.mk (Kd.V_below (Kd.V_elderB (vS HO0_0.out) gb371 (Nat.le_of_eq hg.symm)) hb); have BK371 := Aside0.mk (hbox); have GW371 := Aside0.mk ((by rw [hg]; exact (below_size (hS HB.out)) : w.heap.size ≤ gb371)); have GE371 := Aside0.mk ((by rw [hg]; exact (below_size (hS HB.out)) : w.heap.size ≤ gb371)); replace HB := Aside0.mk (below_step (hS HB.out) hb); have NB370_371 := Aside0.mk ((by rw [hg]; exact Nat.ne_of_lt (blk_lt (bS BK370.out)) : gb370 ≠ gb371)); have NB371_370 := Aside0.mk ((by rw [hg]; exact Nat.ne_of_gt (blk_lt (bS BK370.out)) : gb371 ≠ gb370)); replace BK370 := Aside0.mk (blk_below (bS BK370.out) hb); clear hb hbox hg) | ((with_reducible refine gate_dst (N := 6) rfl ?_); refine box_event ?hg (N := 6) ?hd (cs := #[.slice none 0 0, .bool false]) (t := 24) ?hr ?_; (case hd => rfl); (case hg => rfl); (case hr => first | (go_simp; done) | (go_simp; rfl)); intro gb372 hg w41 hbox hb; replace HO0_0 := Aside0.mk (Kd.V_below (Kd.V_elderB (vS HO0_0.out) gb372 (Nat.le_of_eq hg.symm)) hb); have BK372 := Aside0.mk (hbox); have GW372 := Aside0.mk ((by rw [hg]; exact (below_size (hS HB.out)) : w.heap.size ≤ gb372)); have GE372 := Aside0.mk ((by rw [hg]; exact (below_size (hS HB.out)) : w.heap.size ≤ gb372)); replace HB := Aside0.mk (below_step (hS HB.out) hb); have NB370_372 := Aside0.mk ((by rw [hg]; exact Nat.ne_of_lt (blk_lt (bS BK370.out)) : gb370 ≠ gb372)); have NB372_370 := Aside0.mk ((by rw [hg]; exact Nat.ne_of_gt (blk_lt (bS BK370.out)) : gb372 ≠ gb370)); replace BK370 := Aside0.mk (blk_below (bS BK370.out) hb); have NB371_372 := Aside0.mk ((by rw [hg]; exact Nat.ne_of_lt (blk_lt (bS BK371.out)) : gb371 ≠ gb372)); have NB372_371 := Aside0.mk ((by rw [hg]; exact Nat.ne_of_gt (blk_lt (bS BK371.out)) : gb372 ≠ gb371)); replace BK371 := Aside0.mk (blk_below (bS BK371.out) hb); clear hb hbox hg; have hnb42 := NB370_371.out; have hnc42 := NB371_370.out; have hnb43 := NB370_372.out; have hnc43 := NB372_370.out; have hcz44_0 : w41.cell? ⟨gb370, 0, none⟩ = some (.slice A0_0 l0_0.length c0_0) := (blk_cell BK370.out 0).trans rfl; have hcz44_1 : w41.cell? ⟨gb370, 1, none⟩ = some (.bool false) := (blk_cell BK370.out 1).trans rfl; have hfz44_0 := blk_frozen BK370.out 0; have hfz44_1 := blk_frozen BK370.out 1) | ((with_reducible refine gate_dst (N := 12) rfl ?_); refine Kd.R_lit k33 _ 33 ?hg (N := 12) ?hd (xs := ([] : List (S33))) (inner := []) (ok := fun _ => True) (okp := fun _ => True) ?hr ?hp (fun _ hk => hk) trivial (Below.refl _ _) (Nat.le_refl _) (by simp) ?_; (case hd => rfl); (case hg => rfl); (case hr => first | (go_simp; done) | (go_simp; rfl)); (case hp => exact (Reps.none _ _)); intro v374 w45 ho46 hb hg_ hnew_; clear hg_ hnew_; (first | rw [← Ny373.out] at ho46 | (simp only [Int.reduceToNat] at ho46; rw [← Ny373.out] at ho46)); replace HO0_0 := Aside0.mk (Kd.V_elder' (vS HO0_0.out) (Kd.R_base ho46) hb); have HO375 := Aside0.mk (Kd.R_lower (Kd.R_newB (Kd.R_newM (M := fun k_ => (w.heap.size ≤ k_)) ho46 (below_size (hS HB.out)) (fun k_ h_ => h_)) (bS BK371.out)) (below_size (hS HB.out))); replace BK370 := Aside0.mk (blk_below (bS BK370.out) hb); replace BK371 := Aside0.mk (blk_below (bS BK371.out) hb); replace BK372 := Aside0.mk (blk_below (bS BK372.out) hb); replace HB := Aside0.mk (below_step (hS HB.out) hb); clear hb ho46; have hcz47_0 : w45.cell? ⟨gb370, 0, none⟩ = some (.slice A0_0 l0_0.length c0_0) := (blk_cell BK370.out 0).trans rfl; have hcz47_1 : w45.cell? ⟨gb370, 1, none⟩ = some (.bool false) := (blk_cell BK370.out 1).trans rfl; have hfz47_0 := blk_frozen BK370.out 0; have hfz47_1 := blk_frozen BK370.out 1) | ((with_reducible refine gate_builtin (b := .append) (xs := #[.tmp 12, .tmp 14]) rfl ?_); at_builtin; refine Kd.R_append_rows k33 (w0 := w) w.heap.size rfl (.tmp 12) (.tmp 14) 22 33 (.agg #[(.string ⟨#[]⟩), (.bool false), (.int .i64 0), (.int .i64 0), (.int .i64 0), (.string ⟨#[]⟩)]) 64 rfl Try.underlying22 info33 rfl (by decide) (by omega) v374 y373 l0_0 _ _ _ (fun k_ => (w.heap.size ≤ k_) ∧ k_ ≠ gb371) (fun _ => False) rfl rfl ?aO ?aR (fun _ _ h => h) (fun _ h => h.elim) ?aF ?aB ?aS ?aL ?_; (case aR => repeat (first | exact (Kd.V_reads' HO0_0.out).2.2 | (with_reducible refine Kd.C_alloc ?_ _) | (with_reducible refine Kd.C_drewN ?_ _) | (with_reducible refine Kd.C_drew ?_))); (case aB => exact (hS HB.out)); (case aF => exact (fun k_ hk => ⟨(Nat.le_trans (below_size (hS HB.out)) hk), Kd.freshB (bS BK371.out) k_ hk⟩)); (case aO => exact (by (with_reducible repeat (first | apply Kd.R_alloc | apply Kd.R_drewN | apply Kd.R_drew)); exact Kd.R_mono HO375.out (fun _ hk => ⟨hk.1.1, hk.2⟩))); (case aS => exact (below_size (hS HB.out))); (case aL => have := LMc13.out; omega); intro v377 w48 ho hb hg hat; rw [← Ny376.out] at ho; replace HO0_0 := Aside0.mk (Kd.V_afterv (ok := (fun k_ => (P0_0_ k_ ∨ w.heap.size ≤ k_) ∧ k_ ≠ gb370 ∧ k_ ≠ gb371 ∧ k_ ≠ gb372)) (by (with_reducible repeat (first | apply Kd.V_alloc | apply Kd.V_drewN | apply Kd.V_drew)); exact Kd.V_mono HO0_0.out (fun _ hk => ⟨⟨hk.1.1.1.1, ⟨hk.1.1.1.2, ⟨hk.1.1.2, hk.1.2⟩⟩⟩, hk.2⟩)) hg hat); replace BK370 := Aside0.mk (blk_grown (bS BK370.out) hg (Kd.R_ne HO375.out BK370.out (by decide))); replace BK371 := Aside0.mk (blk_grown (bS BK371.out) hg (Kd.R_away HO375.out (fun _ hk => hk.2))); replace BK372 := Aside0.mk (blk_grown (bS BK372.out) hg (Kd.R_ne HO375.out BK372.out (by decide))); replace HB := Aside0.mk (hb); have HO378 := Aside0.mk (ho); clear HO375; clear ho hb hg hat; have hcz49_0 : w48.cell? ⟨gb370, 0, none⟩ = some (.slice A0_0 l0_0.length c0_0) := (blk_cell BK370.out 0).trans rfl; have hcz49_1 : w48.cell? ⟨gb370, 1, none⟩ = some (.bool false) := (blk_cell BK370.out 1).trans rfl; have hfz49_0 := blk_frozen BK370.out 0; have hfz49_1 := blk_frozen BK370.out 1; have hnb50 := NB371_372.out; have hnc50 := NB372_371.out; have hcz51_0 : w48.cell? ⟨gb371, 0, none⟩ = some (.string a1_0) := (blk_cell BK371.out 0).trans rfl; have hcz51_1 : w48.cell? ⟨gb371, 1, none⟩ = some (.bool a1_1) := (blk_cell BK371.out 1).trans rfl; have hcz51_2 : w48.cell? ⟨gb371, 2, none⟩ = some (.int .i64 a1_2) := (blk_cell BK371.out 2).trans rfl; have hcz51_3 : w48.cell? ⟨gb371, 3, none⟩ = some (.int .i64 a1_3) := (blk_cell BK371.out 3).trans rfl; have hcz51_4 : w48.cell? ⟨gb371, 4, none⟩ = some (.int .i64 a1_4) := (blk_cell BK371.out 4).trans rfl; have hcz51_5 : w48.cell? ⟨gb371, 5, none⟩ = some (.string a1_5) := (blk_cell BK371.out 5).trans rfl; have hfz51_0 := blk_frozen BK371.out 0; have hfz51_1 := blk_frozen BK371.out 1; have hfz51_2 := blk_frozen BK371.out 2; have hfz51_3 := blk_frozen BK371.out 3; have hfz51_4 := blk_frozen BK371.out 4; have hfz51_5 := blk_frozen BK371.out 5) | ((with_reducible refine gate_callee (f := 36) rfl ?_); refine goesL_ (some 19) rfl rfl Try.func36 (by kernel_rfl) rfl #[.agg #[.slice A0_0 l0_0.length c0_0, .bool false], .string a1_0] rfl (by (try simp only [List.map_toArray, List.map_cons, List.map_nil]); first | done | rfl | (simp only [List.length_drop, List.length_take]; rfl)) ?_; (with_reducible refine (rollcallref17_place.calls k _ _ l0_0 false a1_0 t379 _ ?side1 ?side2 A14.out).mono ?_); (case side1 => repeat (first | exact (Kd.V_reads' HO0_0.out).2.2 | (with_reducible refine Kd.C_alloc ?_ _) | (with_reducible refine Kd.C_drewN ?_ _) | (with_reducible refine Kd.C_drew ?_))); (case side2 => exact (Kd.V_reads' HO0_0.out).2.1); rintro e w52 ⟨rfl, hb⟩; refine ⟨_, rfl, ?_⟩; replace HO0_0 := Aside0.mk (Kd.V_below (vS HO0_0.out) hb); replace HO378 := Aside0.mk (Kd.R_below (rS HO378.out) hb); replace BK370 := Aside0.mk (blk_below (bS BK370.out) hb); replace BK371 := Aside0.mk (blk_below (bS BK371.out) hb); replace BK372 := Aside0.mk (blk_below (bS BK372.out) hb); replace HB := Aside0.mk (below_step (hS HB.out) hb); (try clear hb); (try clear hb2); (try clear hk); (try clear hi); obtain ⟨Ao53, co53, eo53⟩ := Kd.R_slice HO378.out; subst eo53; have hcz54_0 : w52.cell? ⟨gb371, 0, none⟩ = some (.string a1_0) := (blk_cell BK371.out 0).trans rfl; have hcz54_1 : w52.cell? ⟨gb371, 1, none⟩ = some (.bool a1_1) := (blk_cell BK371.out 1).trans rfl; have hcz54_2 : w52.cell? ⟨gb371, 2, none⟩ = some (.int .i64 a1_2) := (blk_cell BK371.out 2).trans rfl; have hcz54_3 : w52.cell? ⟨gb371, 3, none⟩ = some (.int .i64 a1_3) := (blk_cell BK371.out 3).trans rfl; have hcz54_4 : w52.cell? ⟨gb371, 4, none⟩ = some (.int .i64 a1_4) := (blk_cell BK371.out 4).trans rfl; have hcz54_5 : w52.cell? ⟨gb371, 5, none⟩ = some (.string a1_5) := (blk_cell BK371.out 5).trans rfl; have hfz54_0 := blk_frozen BK371.out 0; have hfz54_1 := blk_frozen BK371.out 1; have hfz54_2 := blk_frozen BK371.out 2; have hfz54_3 := blk_frozen BK371.out 3; have hfz54_4 := blk_frozen BK371.out 4; have hfz54_5 := blk_frozen BK371.out 5) | ((with_reducible refine gate_builtin (b := .append) (xs := #[.tmp 32, .tmp 34]) rfl ?_); at_builtin; refine Kd.R_append k33 (w0 := w) w.heap.size rfl (.tmp 32) (.tmp 34) 22 33 (.agg #[(.string ⟨#[]⟩), (.bool false), (.int .i64 0), (.int .i64 0), (.int .i64 0), (.string ⟨#[]⟩)]) 64 rfl Try.underlying22 info33 rfl (by decide) (by omega) (.slice Ao53 y376.length co53) y376 (⟨a1_0, a1_1, (⟨a1_2, a1_3, a1_4, a1_5⟩ : S31)⟩ : S33) [.string a1_0, .bool a1_1, .int .i64 a1_2, .int .i64 a1_3, .int .i64 a1_4, .string a1_5] (fun k_ => (w.heap.size ≤ k_) ∧ k_ ≠ gb371) (fun _ => False) rfl rfl ?aP (fun _ hk => hk.elim) ?aF ?aO ?aB ?aS ?aL ?_; (case aP => exact k33_mkM _ _ _ (⟨a1_0, a1_1, (⟨a1_2, a1_3, a1_4, a1_5⟩ : S31)⟩ : S33)); (case aB => exact (hS HB.out)); (case aF => exact (fun k_ hk => ⟨(Nat.le_trans (below_size (hS HB.out)) hk), Kd.freshB (bS BK371.out) k_ hk⟩)); (case aO => exact (rS HO378.out)); (case aS => exact (below_size (hS HB.out))); (case aL => have := LMc38.out; omega); intro v382 w55 ho hb hg hat; rw [← Ny381.out] at ho; replace HO0_0 := Aside0.mk (Kd.V_afterv (ok := (fun k_ => (P0_0_ k_ ∨ w.heap.size ≤ k_) ∧ k_ ≠ gb370 ∧ k_ ≠ gb371 ∧ k_ ≠ gb372)) (vS HO0_0.out) hg hat); replace BK370 := Aside0.mk (blk_grown (bS BK370.out) hg (Kd.R_ne HO378.out BK370.out (by decide))); replace BK371 := Aside0.mk (blk_grown (bS BK371.out) hg (Kd.R_away HO378.out (fun _ hk => hk.2))); replace BK372 := Aside0.mk (blk_grown (bS BK372.out) hg (Kd.R_ne HO378.out BK372.out (by decide))); replace HB := Aside0.mk (hb); have HO383 := Aside0.mk (ho); clear HO378; clear ho hb hg hat; obtain ⟨Ao56, co56, eo56⟩ := Kd.R_slice HO383.out; subst eo56; have hcz57_0 : w55.cell? ⟨gb372, 0, none⟩ = some (.slice none 0 0) := (blk_cell BK372.out 0).trans rfl; have hcz57_1 : w55.cell? ⟨gb372, 1, none⟩ = some (.bool false) := (blk_cell BK372.out 1).trans rfl; have hfz57_0 := blk_frozen BK372.out 0; have hfz57_1 := blk_frozen BK372.out 1))
            refine bodyPost_ret (results_cell_row rfl _ _ gb372 24 #[.slice Ao56 y381.length co56, .bool false] (0, 0) _ rfl (bS (blk_put (bS (blk_put (bS BK372.out) 0 _ rfl)) 1 _ rfl)) Try.underlying24 rfl (by kernel_rfl)) rfl ?_
            exact ⟨_, by first | rfl | (simp [errW_none, errW_some] <;> rfl) | (simp [*, errW_none, errW_some] <;> rfl), Kd.V_mono (Kd.R_V (by (with_reducible repeat (first | apply Kd.R_alloc | apply Kd.R_drewN | apply Kd.R_drew)); exact Kd.R_mono (Kd.R_far (p := ⟨gb372, 1, none⟩) (Kd.R_far (p := ⟨gb372, 0, none⟩) (Kd.R_types HO383.out BK372.out (by decide)) (fun _ hk => hk.2) (.slice Ao56 y381.length co56)) (fun _ hk => hk.2) (.bool false)) (fun _ hk => hk.1.1))) (fun k_ hk => by first | exact ⟨(.inr (hk.1)), hk.2⟩ | exact (.inr (hk))), by repeat (first | (with_reducible first | exact HB.out | apply below_alloc | apply pw_below_drewN | apply below_drew1 | refine below_set ?_ GE370.out | refine below_set ?_ GE371.out | refine below_set ?_ GE372.out) | exact HB.out)⟩
          · rw [if_neg c38] at H
            exact absurd H (by simp)
        · rw [if_neg c37] at H
          have c37b0 : decide ((y376.length : Int) < a2) = false := decide_eq_false c37
          clear c37
          simp only [Option.some.injEq, Prod.mk.injEq] at H
          obtain ⟨rfl, rfl⟩ := H
          go_enter Try.func27, Try.ntmps27
          go_wp2_with (first | ((with_reducible refine gate_dst (N := 3) rfl ?_); refine box_event ?hg (N := 3) ?hd (cs := #[.slice A0_0 l0_0.length c0_0, .bool false]) (t := 24) ?hr ?_; (case hd => rfl); (case hg => rfl); (case hr => first | (go_simp; done) | (go_simp; rfl)); intro gb370 hg w58 hbox hb; replace HO0_0 := Aside0.mk (Kd.V_below (Kd.V_elderB (vS HO0_0.out) gb370 (Nat.le_of_eq hg.symm)) hb); have BK370 := Aside0.mk (hbox); have GW370 := Aside0.mk ((by rw [hg]; exact (below_size (hS HB.out)) : w.heap.size ≤ gb370)); have GE370 := Aside0.mk ((by rw [hg]; exact (below_size (hS HB.out)) : w.heap.size ≤ gb370)); replace HB := Aside0.mk (below_step (hS HB.out) hb); clear hb hbox hg) | ((with_reducible refine gate_dst (N := 4) rfl ?_); refine box_event ?hg (N := 4) ?hd (cs := #[.string a1_0, .bool a1_1, .int .i64 a1_2, .int .i64 a1_3, .int .i64 a1_4, .string a1_5]) (t := 33) ?hr ?_; (case hd => rfl); (case hg => rfl); (case hr => first | (go_simp; done) | (go_simp; rfl)); intro gb371 hg w59 hbox hb; replace HO0_0 := Aside0.mk (Kd.V_below (Kd.V_elderB (vS HO0_0.out) gb371 (Nat.le_of_eq hg.symm)) hb); have BK371 := Aside0.mk (hbox); have GW371 := Aside0.mk ((by rw [hg]; exact (below_size (hS HB.out)) : w.heap.size ≤ gb371)); have GE371 := Aside0.mk ((by rw [hg]; exact (below_size (hS HB.out)) : w.heap.size ≤ gb371)); replace HB := Aside0.mk (below_step (hS HB.out) hb); have NB370_371 := Aside0.mk ((by rw [hg]; exact Nat.ne_of_lt (blk_lt (bS BK370.out)) : gb370 ≠ gb371)); have NB371_370 := Aside0.mk ((by rw [hg]; exact Nat.ne_of_gt (blk_lt (bS BK370.out)) : gb371 ≠ gb370)); replace BK370 := Aside0.mk (blk_below (bS BK370.out) hb); clear hb hbox hg) | ((with_reducible refine gate_dst (N := 6) rfl ?_); refine box_event ?hg (N := 6) ?hd (cs := #[.slice none 0 0, .bool false]) (t := 24) ?hr ?_; (case hd => rfl); (case hg => rfl); (case hr => first | (go_simp; done) | (go_simp; rfl)); intro gb372 hg w60 hbox hb; replace HO0_0 := Aside0.mk (Kd.V_below (Kd.V_elderB (vS HO0_0.out) gb372 (Nat.le_of_eq hg.symm)) hb); have BK372 := Aside0.mk (hbox); have GW372 := Aside0.mk ((by rw [hg]; exact (below_size (hS HB.out)) : w.heap.size ≤ gb372)); have GE372 := Aside0.mk ((by rw [hg]; exact (below_size (hS HB.out)) : w.heap.size ≤ gb372)); replace HB := Aside0.mk (below_step (hS HB.out) hb); have NB370_372 := Aside0.mk ((by rw [hg]; exact Nat.ne_of_lt (blk_lt (bS BK370.out)) : gb370 ≠ gb372)); have NB372_370 := Aside0.mk ((by rw [hg]; exact Nat.ne_of_gt (blk_lt (bS BK370.out)) : gb372 ≠ gb370)); replace BK370 := Aside0.mk (blk_below (bS BK370.out) hb); have NB371_372 := Aside0.mk ((by rw [hg]; exact Nat.ne_of_lt (blk_lt (bS BK371.out)) : gb371 ≠ gb372)); have NB372_371 := Aside0.mk ((by rw [hg]; exact Nat.ne_of_gt (blk_lt (bS BK371.out)) : gb372 ≠ gb371)); replace BK371 := Aside0.mk (blk_below (bS BK371.out) hb); clear hb hbox hg; have hnb61 := NB370_371.out; have hnc61 := NB371_370.out; have hnb62 := NB370_372.out; have hnc62 := NB372_370.out; have hcz63_0 : w60.cell? ⟨gb370, 0, none⟩ = some (.slice A0_0 l0_0.length c0_0) := (blk_cell BK370.out 0).trans rfl; have hcz63_1 : w60.cell? ⟨gb370, 1, none⟩ = some (.bool false) := (blk_cell BK370.out 1).trans rfl; have hfz63_0 := blk_frozen BK370.out 0; have hfz63_1 := blk_frozen BK370.out 1) | ((with_reducible refine gate_dst (N := 12) rfl ?_); refine Kd.R_lit k33 _ 33 ?hg (N := 12) ?hd (xs := ([] : List (S33))) (inner := []) (ok := fun _ => True) (okp := fun _ => True) ?hr ?hp (fun _ hk => hk) trivial (Below.refl _ _) (Nat.le_refl _) (by simp) ?_; (case hd => rfl); (case hg => rfl); (case hr => first | (go_simp; done) | (go_simp; rfl)); (case hp => exact (Reps.none _ _)); intro v374 w64 ho65 hb hg_ hnew_; clear hg_ hnew_; (first | rw [← Ny373.out] at ho65 | (simp only [Int.reduceToNat] at ho65; rw [← Ny373.out] at ho65)); replace HO0_0 := Aside0.mk (Kd.V_elder' (vS HO0_0.out) (Kd.R_base ho65) hb); have HO375 := Aside0.mk (Kd.R_lower (Kd.R_newB (Kd.R_newM (M := fun k_ => (w.heap.size ≤ k_)) ho65 (below_size (hS HB.out)) (fun k_ h_ => h_)) (bS BK371.out)) (below_size (hS HB.out))); replace BK370 := Aside0.mk (blk_below (bS BK370.out) hb); replace BK371 := Aside0.mk (blk_below (bS BK371.out) hb); replace BK372 := Aside0.mk (blk_below (bS BK372.out) hb); replace HB := Aside0.mk (below_step (hS HB.out) hb); clear hb ho65; have hcz66_0 : w64.cell? ⟨gb370, 0, none⟩ = some (.slice A0_0 l0_0.length c0_0) := (blk_cell BK370.out 0).trans rfl; have hcz66_1 : w64.cell? ⟨gb370, 1, none⟩ = some (.bool false) := (blk_cell BK370.out 1).trans rfl; have hfz66_0 := blk_frozen BK370.out 0; have hfz66_1 := blk_frozen BK370.out 1) | ((with_reducible refine gate_builtin (b := .append) (xs := #[.tmp 12, .tmp 14]) rfl ?_); at_builtin; refine Kd.R_append_rows k33 (w0 := w) w.heap.size rfl (.tmp 12) (.tmp 14) 22 33 (.agg #[(.string ⟨#[]⟩), (.bool false), (.int .i64 0), (.int .i64 0), (.int .i64 0), (.string ⟨#[]⟩)]) 64 rfl Try.underlying22 info33 rfl (by decide) (by omega) v374 y373 l0_0 _ _ _ (fun k_ => (w.heap.size ≤ k_) ∧ k_ ≠ gb371) (fun _ => False) rfl rfl ?aO ?aR (fun _ _ h => h) (fun _ h => h.elim) ?aF ?aB ?aS ?aL ?_; (case aR => repeat (first | exact (Kd.V_reads' HO0_0.out).2.2 | (with_reducible refine Kd.C_alloc ?_ _) | (with_reducible refine Kd.C_drewN ?_ _) | (with_reducible refine Kd.C_drew ?_))); (case aB => exact (hS HB.out)); (case aF => exact (fun k_ hk => ⟨(Nat.le_trans (below_size (hS HB.out)) hk), Kd.freshB (bS BK371.out) k_ hk⟩)); (case aO => exact (by (with_reducible repeat (first | apply Kd.R_alloc | apply Kd.R_drewN | apply Kd.R_drew)); exact Kd.R_mono HO375.out (fun _ hk => ⟨hk.1.1, hk.2⟩))); (case aS => exact (below_size (hS HB.out))); (case aL => have := LMc13.out; omega); intro v377 w67 ho hb hg hat; rw [← Ny376.out] at ho; replace HO0_0 := Aside0.mk (Kd.V_afterv (ok := (fun k_ => (P0_0_ k_ ∨ w.heap.size ≤ k_) ∧ k_ ≠ gb370 ∧ k_ ≠ gb371 ∧ k_ ≠ gb372)) (by (with_reducible repeat (first | apply Kd.V_alloc | apply Kd.V_drewN | apply Kd.V_drew)); exact Kd.V_mono HO0_0.out (fun _ hk => ⟨⟨hk.1.1.1.1, ⟨hk.1.1.1.2, ⟨hk.1.1.2, hk.1.2⟩⟩⟩, hk.2⟩)) hg hat); replace BK370 := Aside0.mk (blk_grown (bS BK370.out) hg (Kd.R_ne HO375.out BK370.out (by decide))); replace BK371 := Aside0.mk (blk_grown (bS BK371.out) hg (Kd.R_away HO375.out (fun _ hk => hk.2))); replace BK372 := Aside0.mk (blk_grown (bS BK372.out) hg (Kd.R_ne HO375.out BK372.out (by decide))); replace HB := Aside0.mk (hb); have HO378 := Aside0.mk (ho); clear HO375; clear ho hb hg hat; have hcz68_0 : w67.cell? ⟨gb370, 0, none⟩ = some (.slice A0_0 l0_0.length c0_0) := (blk_cell BK370.out 0).trans rfl; have hcz68_1 : w67.cell? ⟨gb370, 1, none⟩ = some (.bool false) := (blk_cell BK370.out 1).trans rfl; have hfz68_0 := blk_frozen BK370.out 0; have hfz68_1 := blk_frozen BK370.out 1; have hnb69 := NB371_372.out; have hnc69 := NB372_371.out; have hcz70_0 : w67.cell? ⟨gb371, 0, none⟩ = some (.string a1_0) := (blk_cell BK371.out 0).trans rfl; have hcz70_1 : w67.cell? ⟨gb371, 1, none⟩ = some (.bool a1_1) := (blk_cell BK371.out 1).trans rfl; have hcz70_2 : w67.cell? ⟨gb371, 2, none⟩ = some (.int .i64 a1_2) := (blk_cell BK371.out 2).trans rfl; have hcz70_3 : w67.cell? ⟨gb371, 3, none⟩ = some (.int .i64 a1_3) := (blk_cell BK371.out 3).trans rfl; have hcz70_4 : w67.cell? ⟨gb371, 4, none⟩ = some (.int .i64 a1_4) := (blk_cell BK371.out 4).trans rfl; have hcz70_5 : w67.cell? ⟨gb371, 5, none⟩ = some (.string a1_5) := (blk_cell BK371.out 5).trans rfl; have hfz70_0 := blk_frozen BK371.out 0; have hfz70_1 := blk_frozen BK371.out 1; have hfz70_2 := blk_frozen BK371.out 2; have hfz70_3 := blk_frozen BK371.out 3; have hfz70_4 := blk_frozen BK371.out 4; have hfz70_5 := blk_frozen BK371.out 5) | ((with_reducible refine gate_callee (f := 36) rfl ?_); refine goesL_ (some 19) rfl rfl Try.func36 (by kernel_rfl) rfl #[.agg #[.slice A0_0 l0_0.length c0_0, .bool false], .string a1_0] rfl (by (try simp only [List.map_toArray, List.map_cons, List.map_nil]); first | done | rfl | (simp only [List.length_drop, List.length_take]; rfl)) ?_; (with_reducible refine (rollcallref17_place.calls k _ _ l0_0 false a1_0 t379 _ ?side1 ?side2 A14.out).mono ?_); (case side1 => repeat (first | exact (Kd.V_reads' HO0_0.out).2.2 | (with_reducible refine Kd.C_alloc ?_ _) | (with_reducible refine Kd.C_drewN ?_ _) | (with_reducible refine Kd.C_drew ?_))); (case side2 => exact (Kd.V_reads' HO0_0.out).2.1); rintro e w71 ⟨rfl, hb⟩; refine ⟨_, rfl, ?_⟩; replace HO0_0 := Aside0.mk (Kd.V_below (vS HO0_0.out) hb); replace HO378 := Aside0.mk (Kd.R_below (rS HO378.out) hb); replace BK370 := Aside0.mk (blk_below (bS BK370.out) hb); replace BK371 := Aside0.mk (blk_below (bS BK371.out) hb); replace BK372 := Aside0.mk (blk_below (bS BK372.out) hb); replace HB := Aside0.mk (below_step (hS HB.out) hb); (try clear hb); (try clear hb2); (try clear hk); (try clear hi); obtain ⟨Ao72, co72, eo72⟩ := Kd.R_slice HO378.out; subst eo72; have hcz73_0 : w71.cell? ⟨gb372, 0, none⟩ = some (.slice none 0 0) := (blk_cell BK372.out 0).trans rfl; have hcz73_1 : w71.cell? ⟨gb372, 1, none⟩ = some (.bool false) := (blk_cell BK372.out 1).trans rfl; have hfz73_0 := blk_frozen BK372.out 0; have hfz73_1 := blk_frozen BK372.out 1))
          refine bodyPost_ret (results_cell_row rfl _ _ gb372 24 #[.slice none 0 0, .bool true] (0, 0) _ rfl (bS (blk_put (bS (blk_put (bS BK372.out) 0 _ rfl)) 1 _ rfl)) Try.underlying24 rfl (by kernel_rfl)) rfl ?_
          exact ⟨_, by first | rfl | (simp [errW_none, errW_some] <;> rfl) | (simp [*, errW_none, errW_some] <;> rfl), Kd.V_nil _ _ _ _ _, by repeat (first | (with_reducible first | exact HB.out | apply below_alloc | apply pw_below_drewN | apply below_drew1 | refine below_set ?_ GE370.out | refine below_set ?_ GE371.out | refine below_set ?_ GE372.out) | exact HB.out)⟩
    · rw [if_neg c13] at H
      exact absurd H (by simp)

/-! ### rollcalllaw17_QueuePushes: function 4 -/
def rollcalllaw17_QueuePushes.j0 : Nat → Int → Bool → List (S33) → Bool → ByteArray → Bool → Int → Int → Int → ByteArray → Option (Bool)
  | 0, _, _, _, _, _, _, _, _, _, _ => none
  | k + 1, x2, x15, x385000, x385001, x386000, x386001, x386002, x386003, x386004, x386005 => if x15 = true then ((rollcalllaw17_live.f k).bind fun t391 => (some t391)) else ((queue_Push.f x385000 x385001 x386000 x386001 x386002 x386003 x386004 x386005 x2).bind fun bt392 => ((rollcallref17_Push.f k x385000 x385001 x386000 x386001 x386002 x386003 x386004 x386005 x2).bind fun bt396 => ((rollcallref17_Same.f k bt392.1 bt392.2 bt396.1 bt396.2).bind fun t400 => (if t400 = true then ((rollcalllaw17_live.f k).bind fun t401 => (some t401)) else (some false)))))
def rollcalllaw17_QueuePushes.f (k : Nat) (l0_0 : List (S33)) (a0_1 : Bool) (a1_0 : ByteArray) (a1_1 : Bool) (a1_2 : Int) (a1_3 : Int) (a1_4 : Int) (a1_5 : ByteArray) (a2 : Int) : Option (Bool) := (rollcallref17_Few.f k l0_0 a0_1).bind fun t386 => (if t386 = true then ((rollcallref17_Changes.f k (([(⟨a1_0, a1_1, (⟨a1_2, a1_3, a1_4, a1_5⟩ : S31)⟩ : S33)] : List (S33))) 1).bind fun t390 => (rollcalllaw17_QueuePushes.j0 k a2 (!t390) l0_0 a0_1 a1_0 a1_1 a1_2 a1_3 a1_4 a1_5)) else (rollcalllaw17_QueuePushes.j0 k a2 true l0_0 a0_1 a1_0 a1_1 a1_2 a1_3 a1_4 a1_5))
theorem rollcalllaw17_QueuePushes.mono_l : ∀ k, (∀ y0 y1 y2 y3 y4 y5 y6 y7 y8 y9, LeO (rollcalllaw17_QueuePushes.j0 k y0 y1 y2 y3 y4 y5 y6 y7 y8 y9) (rollcalllaw17_QueuePushes.j0 (k + 1) y0 y1 y2 y3 y4 y5 y6 y7 y8 y9))
  | 0 => fun _ _ _ _ _ _ _ _ _ _ r h => by simp [rollcalllaw17_QueuePushes.j0] at h
  | k + 1 => by
    have ih0 := rollcalllaw17_QueuePushes.mono_l k
    · intro y0 y1 y2 y3 y4 y5 y6 y7 y8 y9
      unfold rollcalllaw17_QueuePushes.j0
      repeat' first
      | (with_reducible exact ih0 _ _ _ _ _ _ _ _ _ _)
      | (with_reducible exact rollcalllaw17_live.mono _)
      | (with_reducible exact rollcallref17_Changes.mono _ _ _)
      | (with_reducible exact rollcallref17_Few.mono _ _ _)
      | (with_reducible exact rollcallref17_Push.mono _ _ _ _ _ _ _ _ _ _)
      | (with_reducible exact rollcallref17_Same.mono _ _ _ _ _)
      | (with_reducible exact LeO.refl _)
      | (with_reducible exact LeO.none _)
      | (with_reducible refine LeO.ite ?_ ?_)
      | (with_reducible refine LeO.bind ?_ (fun _ => ?_))
      | exact ih0 _ _ _ _ _ _ _ _ _ _
      | exact rollcalllaw17_live.mono _
      | exact rollcallref17_Changes.mono _ _ _
      | exact rollcallref17_Few.mono _ _ _
      | exact rollcallref17_Push.mono _ _ _ _ _ _ _ _ _ _
      | exact rollcallref17_Same.mono _ _ _ _ _
      | exact LeO.none _
      | refine LeO.ite ?_ ?_
      | refine LeO.bind ?_ (fun _ => ?_)
theorem rollcalllaw17_QueuePushes.mono : ∀ a0 a1 a2 a3 a4 a5 a6 a7 a8 k, LeO (rollcalllaw17_QueuePushes.f k a0 a1 a2 a3 a4 a5 a6 a7 a8) (rollcalllaw17_QueuePushes.f (k + 1) a0 a1 a2 a3 a4 a5 a6 a7 a8) := by
  intro a0 a1 a2 a3 a4 a5 a6 a7 a8 k
  have ih0 := rollcalllaw17_QueuePushes.mono_l k
  unfold rollcalllaw17_QueuePushes.f
  repeat' first
      | (with_reducible exact ih0 _ _ _ _ _ _ _ _ _ _)
      | (with_reducible exact rollcalllaw17_live.mono _)
      | (with_reducible exact rollcallref17_Changes.mono _ _ _)
      | (with_reducible exact rollcallref17_Few.mono _ _ _)
      | (with_reducible exact rollcallref17_Push.mono _ _ _ _ _ _ _ _ _ _)
      | (with_reducible exact rollcallref17_Same.mono _ _ _ _ _)
      | (with_reducible exact LeO.refl _)
      | (with_reducible exact LeO.none _)
      | (with_reducible refine LeO.ite ?_ ?_)
      | (with_reducible refine LeO.bind ?_ (fun _ => ?_))
      | exact ih0 _ _ _ _ _ _ _ _ _ _
      | exact rollcalllaw17_live.mono _
      | exact rollcallref17_Changes.mono _ _ _
      | exact rollcallref17_Few.mono _ _ _
      | exact rollcallref17_Push.mono _ _ _ _ _ _ _ _ _ _
      | exact rollcallref17_Same.mono _ _ _ _ _
      | exact LeO.none _
      | refine LeO.ite ?_ ?_
      | refine LeO.bind ?_ (fun _ => ?_)
def rollcalllaw17_QueuePushes.T3 : Bool × List (List Nat × List Nat) := (true, [([], []), ([], []), ([], []), ([0, 1, 2], [0, 1, 2]), ([], []), ([], []), ([], []), ([4, 5, 6, 3], [4, 5, 6]), ([3, 7, 7], [3, 7]), ([8, 8], [8]), ([9, 9], [9]), ([9, 10], [9, 10]), ([11, 10, 0, 1, 2, 3, 4, 5, 6, 7, 8, 9, 10, 11], [11])])
def rollcalllaw17_QueuePushes.B3 : List Nat := [0, 0, 0, 7, 0, 0, 0, 127, 255, 511, 1023, 2047, 4095]
theorem rollcalllaw17_QueuePushes.tab3 : rtab .any (opsOf Try.f4 3) = rollcalllaw17_QueuePushes.T3 := by kernel_rfl
theorem rollcalllaw17_QueuePushes.bits3 : waitsOk rollcalllaw17_QueuePushes.T3.2 rollcalllaw17_QueuePushes.B3 = true := by kernel_rfl
set_option maxHeartbeats 8000000 in
set_option maxRecDepth 100000 in
theorem rollcalllaw17_QueuePushes.calls (k : Nat) (A0_0 : Option Addr) (c0_0 : Nat) (l0_0 : List (S33)) (a0_1 : Bool) (a1_0 : ByteArray) (a1_1 : Bool) (a1_2 : Int) (a1_3 : Int) (a1_4 : Int) (a1_5 : ByteArray) (a2 : Int) (r : Bool) (hT_ : r = true) (w : World) (hr0_0 : Kd.C k33 w A0_0 l0_0.length l0_0) (hc0_0 : l0_0.length ≤ c0_0) (h : rollcalllaw17_QueuePushes.f k l0_0 a0_1 a1_0 a1_1 a1_2 a1_3 a1_4 a1_5 a2 = some r) :
    Calls Try.prog 4 #[.agg #[.slice A0_0 l0_0.length c0_0, .bool a0_1], .agg #[.string a1_0, .bool a1_1, .int .i64 a1_2, .int .i64 a1_3, .int .i64 a1_4, .string a1_5], .int .i64 a2] w fun e w' => e = .returned (.bool r) ∧ Below w.heap.size w w' := by
  have hu24 := Try.underlying24
  have hu33 := Try.underlying33
  have HT := Aside0.mk hT_
  clear hT_
  have HR0_0 := Aside0.mk hr0_0
  have HC0_0 := Aside0.mk hc0_0
  clear hr0_0 hc0_0
  have HB := Aside0.mk (Below.refl w.heap.size w)
  have H : ((rollcallref17_Few.f k l0_0 a0_1).bind fun t386 => (if t386 = true then ((rollcallref17_Changes.f k (([(⟨a1_0, a1_1, (⟨a1_2, a1_3, a1_4, a1_5⟩ : S31)⟩ : S33)] : List (S33))) 1).bind fun t390 => (rollcalllaw17_QueuePushes.j0 k a2 (!t390) l0_0 a0_1 a1_0 a1_1 a1_2 a1_3 a1_4 a1_5)) else (rollcalllaw17_QueuePushes.j0 k a2 true l0_0 a0_1 a1_0 a1_1 a1_2 a1_3 a1_4 a1_5))) = some r := h
  clear h
  have HC4 := Aside0.mk H
  clear H
  go_enter Try.func4, Try.ntmps4
  go_upto_region 1 with (first | ((with_reducible refine gate_dst (N := 3) rfl ?_); (try (refine gate_guard (by rfl) ?_; dsimp only)); refine box_event ?hg (N := 3) ?hd (cs := #[.slice A0_0 l0_0.length c0_0, .bool a0_1]) (t := 24) ?hr ?_; (case hd => rfl); (case hg => rfl); (case hr => first | (go_simp; done) | (go_simp; rfl)); intro gb384 hg w5 hbox hb; have BK384 := Aside0.mk (hbox); have GW384 := Aside0.mk ((by rw [hg]; exact (below_size (hS HB.out)) : w.heap.size ≤ gb384)); have GE384 := Aside0.mk ((by rw [hg]; exact (below_size (hS HB.out)) : w.heap.size ≤ gb384)); replace HB := Aside0.mk (below_step (hS HB.out) hb); clear hb hbox hg) | ((with_reducible refine gate_dst (N := 4) rfl ?_); (try (refine gate_guard (by rfl) ?_; dsimp only)); refine box_event ?hg (N := 4) ?hd (cs := #[.string a1_0, .bool a1_1, .int .i64 a1_2, .int .i64 a1_3, .int .i64 a1_4, .string a1_5]) (t := 33) ?hr ?_; (case hd => rfl); (case hg => rfl); (case hr => first | (go_simp; done) | (go_simp; rfl)); intro gb385 hg w6 hbox hb; have BK385 := Aside0.mk (hbox); have GW385 := Aside0.mk ((by rw [hg]; exact (below_size (hS HB.out)) : w.heap.size ≤ gb385)); have GE385 := Aside0.mk ((by rw [hg]; exact (below_size (hS HB.out)) : w.heap.size ≤ gb385)); replace HB := Aside0.mk (below_step (hS HB.out) hb); have NB384_385 := Aside0.mk ((by rw [hg]; exact Nat.ne_of_lt (blk_lt (bS BK384.out)) : gb384 ≠ gb385)); have NB385_384 := Aside0.mk ((by rw [hg]; exact Nat.ne_of_gt (blk_lt (bS BK384.out)) : gb385 ≠ gb384)); replace BK384 := Aside0.mk (blk_below (bS BK384.out) hb); clear hb hbox hg))
  (try simp only [Act.put, List.setIfInBounds_toArray, List.set_cons_zero, List.set_cons_succ])
  go_cut [15] (fun v15 wc => ∃ (kq : Nat) (x15_3 : Bool), v15 = .bool x15_3 ∧ Aside0 (rollcalllaw17_QueuePushes.j0 kq a2 x15_3 l0_0 a0_1 a1_0 a1_1 a1_2 a1_3 a1_4 a1_5 = some r) ∧ Aside0 (kq ≤ k) ∧ Aside0 (wc.heap[gb384]? = some (.cells #[(.slice A0_0 l0_0.length c0_0), .bool a0_1] 24 (0, 0))) ∧ Aside0 (wc.heap[gb385]? = some (.cells #[.string a1_0, .bool a1_1, .int .i64 a1_2, .int .i64 a1_3, .int .i64 a1_4, .string a1_5] 33 (0, 0))) ∧ Aside0 (Below w.heap.size w wc))
  case first =>
    have H := HC4.out
    clear HC4
    replace H := Option.bind_eq_some_iff.mp H
    obtain ⟨t386, A70, H⟩ := H
    replace H : (if t386 = true then ((rollcallref17_Changes.f k (([(⟨a1_0, a1_1, (⟨a1_2, a1_3, a1_4, a1_5⟩ : S31)⟩ : S33)] : List (S33))) 1).bind fun t390 => (rollcalllaw17_QueuePushes.j0 k a2 (!t390) l0_0 a0_1 a1_0 a1_1 a1_2 a1_3 a1_4 a1_5)) else (rollcalllaw17_QueuePushes.j0 k a2 true l0_0 a0_1 a1_0 a1_1 a1_2 a1_3 a1_4 a1_5)) = some r := H
    have A7 := Aside0.mk A70
    clear A70
    by_cases c8 : t386 = true
    · subst c8
      have H1 : ((rollcallref17_Changes.f k (([(⟨a1_0, a1_1, (⟨a1_2, a1_3, a1_4, a1_5⟩ : S31)⟩ : S33)] : List (S33))) 1).bind fun t390 => (rollcalllaw17_QueuePushes.j0 k a2 (!t390) l0_0 a0_1 a1_0 a1_1 a1_2 a1_3 a1_4 a1_5)) = some r := by rw [if_pos rfl] at H; exact H
      clear H
      have H := H1
      clear H1
      obtain ⟨y387, hy387⟩ : ∃ y_ : List (S33), y_ = (([(⟨a1_0, a1_1, (⟨a1_2, a1_3, a1_4, a1_5⟩ : S31)⟩ : S33)] : List (S33))) := ⟨_, rfl⟩
      replace H : ((rollcallref17_Changes.f k y387 1).bind fun t390 => (rollcalllaw17_QueuePushes.j0 k a2 (!t390) l0_0 a0_1 a1_0 a1_1 a1_2 a1_3 a1_4 a1_5)) = some r := by first | (rw [hy387]; with_reducible exact H) | (have H2_ := (Option.bind_some _ _).symm.trans H; rw [hy387]; with_reducible exact H2_) | (have H2_ := (Option.bind_some _ _).symm.trans H; with_reducible exact H2_) | with_reducible exact H | (rw [hy387]; exact H) | exact H
      have Ny387 := Aside0.mk hy387
      clear hy387
      replace H := Option.bind_eq_some_iff.mp H
      obtain ⟨t390, A90, H⟩ := H
      replace H : (rollcalllaw17_QueuePushes.j0 k a2 (!t390) l0_0 a0_1 a1_0 a1_1 a1_2 a1_3 a1_4 a1_5) = some r := H
      have A9 := Aside0.mk A90
      clear A90
      have H' := Aside0.mk H
      clear H
      have hnb10 := NB384_385.out
      have hnc10 := NB385_384.out
      have hcz11_0 : w6.cell? ⟨gb384, 0, none⟩ = some (.slice A0_0 l0_0.length c0_0) := (blk_cell BK384.out 0).trans rfl
      have hcz11_1 : w6.cell? ⟨gb384, 1, none⟩ = some (.bool a0_1) := (blk_cell BK384.out 1).trans rfl
      have hfz11_0 := blk_frozen BK384.out 0
      have hfz11_1 := blk_frozen BK384.out 1
      go_wp2_with (first | ((with_reducible refine gate_callee (f := 8) rfl ?_); refine goesL_ (some 8) rfl rfl Try.func8 (by kernel_rfl) rfl #[.agg #[.slice A0_0 l0_0.length c0_0, .bool a0_1]] rfl (by (try simp only [List.map_toArray, List.map_cons, List.map_nil]); first | done | rfl | (simp only [List.length_drop, List.length_take]; rfl)) ?_; (with_reducible refine (rollcallref17_Few.calls k _ _ l0_0 a0_1 true _ ?side1 ?side2 A7.out).mono ?_); (case side1 => repeat (first | exact (Kd.C_below HR0_0.out HB.out) | (with_reducible refine Kd.C_alloc ?_ _) | (with_reducible refine Kd.C_drewN ?_ _) | (with_reducible refine Kd.C_drew ?_))); (case side2 => exact HC0_0.out); rintro e w12 ⟨rfl, hb⟩; refine ⟨_, rfl, ?_⟩; replace BK384 := Aside0.mk (blk_below (bS BK384.out) hb); replace BK385 := Aside0.mk (blk_below (bS BK385.out) hb); replace HB := Aside0.mk (below_step (hS HB.out) hb); (try clear hb); (try clear hb2); (try clear hk); (try clear hi); have hcz13_0 : w12.cell? ⟨gb385, 0, none⟩ = some (.string a1_0) := (blk_cell BK385.out 0).trans rfl; have hcz13_1 : w12.cell? ⟨gb385, 1, none⟩ = some (.bool a1_1) := (blk_cell BK385.out 1).trans rfl; have hcz13_2 : w12.cell? ⟨gb385, 2, none⟩ = some (.int .i64 a1_2) := (blk_cell BK385.out 2).trans rfl; have hcz13_3 : w12.cell? ⟨gb385, 3, none⟩ = some (.int .i64 a1_3) := (blk_cell BK385.out 3).trans rfl; have hcz13_4 : w12.cell? ⟨gb385, 4, none⟩ = some (.int .i64 a1_4) := (blk_cell BK385.out 4).trans rfl; have hcz13_5 : w12.cell? ⟨gb385, 5, none⟩ = some (.string a1_5) := (blk_cell BK385.out 5).trans rfl; have hfz13_0 := blk_frozen BK385.out 0; have hfz13_1 := blk_frozen BK385.out 1; have hfz13_2 := blk_frozen BK385.out 2; have hfz13_3 := blk_frozen BK385.out 3; have hfz13_4 := blk_frozen BK385.out 4; have hfz13_5 := blk_frozen BK385.out 5) | ((with_reducible refine gate_dst (N := 12) rfl ?_); (try (refine gate_guard (by rfl) ?_; dsimp only)); refine Kd.R_lit k33 _ 33 ?hg (N := 12) ?hd (xs := ([(⟨a1_0, a1_1, (⟨a1_2, a1_3, a1_4, a1_5⟩ : S31)⟩ : S33)] : List (S33))) (inner := [.string a1_0, .bool a1_1, .int .i64 a1_2, .int .i64 a1_3, .int .i64 a1_4, .string a1_5]) (ok := fun _ => True) (okp := fun _ => True) ?hr ?hp (fun _ hk => hk) trivial (Below.refl _ _) (Nat.le_refl _) (by simp) ?_; (case hd => rfl); (case hg => rfl); (case hr => first | (go_simp; done) | (go_simp; rfl)); (case hp => exact (Reps.c6 (show Kd.M k33 _ _ _ (⟨a1_0, a1_1, (⟨a1_2, a1_3, a1_4, a1_5⟩ : S31)⟩ : S33) [.string a1_0, .bool a1_1, .int .i64 a1_2, .int .i64 a1_3, .int .i64 a1_4, .string a1_5] from (k33_mkM _ _ _ (⟨a1_0, a1_1, (⟨a1_2, a1_3, a1_4, a1_5⟩ : S31)⟩ : S33) )) (Reps.none _ _))); intro v388 w14 ho15 hb hg_ hnew_; clear hg_ hnew_; (first | rw [← Ny387.out] at ho15 | (simp only [Int.reduceToNat] at ho15; rw [← Ny387.out] at ho15)); have HO389 := Aside0.mk (Kd.R_lower (Kd.R_newB ho15 (bS BK385.out)) (below_size (hS HB.out))); replace BK384 := Aside0.mk (blk_below (bS BK384.out) hb); replace BK385 := Aside0.mk (blk_below (bS BK385.out) hb); replace HB := Aside0.mk (below_step (hS HB.out) hb); clear hb ho15; obtain ⟨Ao16, co16, eo16⟩ := Kd.R_slice HO389.out; subst eo16) | (go_at_call 25; (with_reducible refine (rollcallref17_Changes.calls k _ _ y387 1 t390 _ ?side1 ?side2 A9.out).mono ?_); (case side1 => repeat (first | exact (Kd.R_reads' HO389.out).2.2 | (with_reducible refine Kd.C_alloc ?_ _) | (with_reducible refine Kd.C_drewN ?_ _) | (with_reducible refine Kd.C_drew ?_))); (case side2 => exact (Kd.R_reads' HO389.out).2.1); rintro e w' ⟨rfl, ⟨nd, rfl⟩⟩))
      go_meet
      case rel => exact ⟨_, (!t390), (by first | rfl | (simp; done) | (simp [*]; done)), H', ⟨by first | omega | exact Nat.le_refl _⟩, ⟨bS BK384.out⟩, ⟨bS BK385.out⟩, ⟨by repeat (first | (with_reducible first | exact HB.out | apply below_alloc | apply pw_below_drewN | apply below_drew1 | refine below_set ?_ GE384.out | refine below_set ?_ GE385.out) | exact HB.out)⟩⟩
    · replace c8 := Bool.eq_false_iff.mpr c8
      subst c8
      have H1 : (rollcalllaw17_QueuePushes.j0 k a2 true l0_0 a0_1 a1_0 a1_1 a1_2 a1_3 a1_4 a1_5) = some r := by rw [if_neg (show ¬ (false = true) by decide)] at H; exact H
      clear H
      have H := H1
      clear H1
      have H' := Aside0.mk H
      clear H
      have hnb17 := NB384_385.out
      have hnc17 := NB385_384.out
      have hcz18_0 : w6.cell? ⟨gb384, 0, none⟩ = some (.slice A0_0 l0_0.length c0_0) := (blk_cell BK384.out 0).trans rfl
      have hcz18_1 : w6.cell? ⟨gb384, 1, none⟩ = some (.bool a0_1) := (blk_cell BK384.out 1).trans rfl
      have hfz18_0 := blk_frozen BK384.out 0
      have hfz18_1 := blk_frozen BK384.out 1
      go_wp2_with (first | ((with_reducible refine gate_callee (f := 8) rfl ?_); refine goesL_ (some 8) rfl rfl Try.func8 (by kernel_rfl) rfl #[.agg #[.slice A0_0 l0_0.length c0_0, .bool a0_1]] rfl (by (try simp only [List.map_toArray, List.map_cons, List.map_nil]); first | done | rfl | (simp only [List.length_drop, List.length_take]; rfl)) ?_; (with_reducible refine (rollcallref17_Few.calls k _ _ l0_0 a0_1 false _ ?side1 ?side2 A7.out).mono ?_); (case side1 => repeat (first | exact (Kd.C_below HR0_0.out HB.out) | (with_reducible refine Kd.C_alloc ?_ _) | (with_reducible refine Kd.C_drewN ?_ _) | (with_reducible refine Kd.C_drew ?_))); (case side2 => exact HC0_0.out); rintro e w19 ⟨rfl, hb⟩; refine ⟨_, rfl, ?_⟩; replace BK384 := Aside0.mk (blk_below (bS BK384.out) hb); replace BK385 := Aside0.mk (blk_below (bS BK385.out) hb); replace HB := Aside0.mk (below_step (hS HB.out) hb); (try clear hb); (try clear hb2); (try clear hk); (try clear hi)))
      go_meet
      case rel => exact ⟨_, (true), (by first | rfl | (simp; done) | (simp [*]; done)), H', ⟨by first | omega | exact Nat.le_refl _⟩, ⟨bS BK384.out⟩, ⟨bS BK385.out⟩, ⟨by repeat (first | (with_reducible first | exact HB.out | apply below_alloc | apply pw_below_drewN | apply below_drew1 | refine below_set ?_ GE384.out | refine below_set ?_ GE385.out) | exact HB.out)⟩⟩
  case rest =>
    clear HC4
    try clear c1
    try clear p2
    try clear c4
    try clear c6
    try clear c8
    try clear c10
    try clear c17
    try clear hcz11_0
    try clear hcz11_1
    try clear hcz13_0
    try clear hcz13_1
    try clear hcz13_2
    try clear hcz13_3
    try clear hcz13_4
    try clear hcz13_5
    try clear hcz18_0
    try clear hcz18_1
    try clear hfz11_0
    try clear hfz11_1
    try clear hfz13_0
    try clear hfz13_1
    try clear hfz13_2
    try clear hfz13_3
    try clear hfz13_4
    try clear hfz13_5
    try clear hfz18_0
    try clear hfz18_1
    obtain ⟨kq, x15_3, rfl, HA, HJ3, BK384, BK385, HB⟩ := hcut
    cases kq with
    | zero => exact absurd HA.out (by simp [rollcalllaw17_QueuePushes.j0])
    | succ kj3 =>
      have H := HA.out
      clear HA
      simp only [rollcalllaw17_QueuePushes.j0] at H
      by_cases c20 : x15_3 = true
      · subst c20
        have H1 : ((rollcalllaw17_live.f kj3).bind fun t391 => (some t391)) = some r := by rw [if_pos rfl] at H; exact H
        clear H
        have H := H1
        clear H1
        replace H := Option.bind_eq_some_iff.mp H
        obtain ⟨t391, A210, H⟩ := H
        replace H : (some t391) = some r := H
        have A21 := Aside0.mk A210
        clear A210
        obtain rfl := Option.some.inj H
        go_wp2_with (first | ((with_reducible refine gate_callee (f := 10) rfl ?_); refine goesL_ (some 16) rfl rfl Try.func10 (by kernel_rfl) rfl #[] rfl (by (try simp only [List.map_toArray, List.map_cons, List.map_nil]); first | done | rfl | (simp only [List.length_drop, List.length_take]; rfl)) ?_; (with_reducible refine (rollcalllaw17_live.calls kj3  t391 _ A21.out).mono ?_); rintro e w22 ⟨rfl, hb⟩; refine ⟨_, rfl, ?_⟩; replace BK384 := Aside0.mk (blk_below (bS BK384.out) hb); replace BK385 := Aside0.mk (blk_below (bS BK385.out) hb); replace HB := Aside0.mk (below_step (hS HB.out) hb); (try clear hb); (try clear hb2); (try clear hk); (try clear hi)))
        go_ret
        exact ⟨by first | rfl | (simp [errW_none, errW_some] <;> rfl) | (simp [*, errW_none, errW_some] <;> rfl), by repeat (first | (with_reducible first | exact HB.out | apply below_alloc | apply pw_below_drewN | apply below_drew1 | refine below_set ?_ GE384.out | refine below_set ?_ GE385.out) | exact HB.out)⟩
      · replace c20 := Bool.eq_false_iff.mpr c20
        subst c20
        have H1 : ((queue_Push.f l0_0 a0_1 a1_0 a1_1 a1_2 a1_3 a1_4 a1_5 a2).bind fun bt392 => ((rollcallref17_Push.f kj3 l0_0 a0_1 a1_0 a1_1 a1_2 a1_3 a1_4 a1_5 a2).bind fun bt396 => ((rollcallref17_Same.f kj3 bt392.1 bt392.2 bt396.1 bt396.2).bind fun t400 => (if t400 = true then ((rollcalllaw17_live.f kj3).bind fun t401 => (some t401)) else (some false))))) = some r := by rw [if_neg (show ¬ (false = true) by decide)] at H; exact H
        clear H
        have H := H1
        clear H1
        replace H := Option.bind_eq_some_iff.mp H
        obtain ⟨⟨t392, t395⟩, A230, H⟩ := H
        replace H : ((rollcallref17_Push.f kj3 l0_0 a0_1 a1_0 a1_1 a1_2 a1_3 a1_4 a1_5 a2).bind fun bt396 => ((rollcallref17_Same.f kj3 t392 t395 bt396.1 bt396.2).bind fun t400 => (if t400 = true then ((rollcalllaw17_live.f kj3).bind fun t401 => (some t401)) else (some false)))) = some r := H
        have A23 := Aside0.mk A230
        clear A230
        replace H := Option.bind_eq_some_iff.mp H
        obtain ⟨⟨t396, t399⟩, A240, H⟩ := H
        replace H : ((rollcallref17_Same.f kj3 t392 t395 t396 t399).bind fun t400 => (if t400 = true then ((rollcalllaw17_live.f kj3).bind fun t401 => (some t401)) else (some false))) = some r := H
        have A24 := Aside0.mk A240
        clear A240
        replace H := Option.bind_eq_some_iff.mp H
        obtain ⟨t400, A250, H⟩ := H
        replace H : (if t400 = true then ((rollcalllaw17_live.f kj3).bind fun t401 => (some t401)) else (some false)) = some r := H
        have A25 := Aside0.mk A250
        clear A250
        by_cases c26 : t400 = true
        · subst c26
          have H1 : ((rollcalllaw17_live.f kj3).bind fun t401 => (some t401)) = some r := by rw [if_pos rfl] at H; exact H
          clear H
          have H := H1
          clear H1
          replace H := Option.bind_eq_some_iff.mp H
          obtain ⟨t401, A270, H⟩ := H
          replace H : (some t401) = some r := H
          have A27 := Aside0.mk A270
          clear A270
          obtain rfl := Option.some.inj H
          try go_wp2
          replace BK384 := Aside0.mk (blk_drew BK384.out)
          replace BK385 := Aside0.mk (blk_drew BK385.out)
          replace HB := Aside0.mk (below_drew1 HB.out)
          refine start_ (n := 13) (S := fun w' => w'.cell? ⟨gb384, 0, none⟩ = some (.slice A0_0 l0_0.length c0_0) ∧ w'.cell? ⟨gb384, 1, none⟩ = some (.bool a0_1) ∧ w'.cell? ⟨gb385, 0, none⟩ = some (.string a1_0) ∧ w'.cell? ⟨gb385, 1, none⟩ = some (.bool a1_1) ∧ w'.cell? ⟨gb385, 2, none⟩ = some (.int .i64 a1_2) ∧ w'.cell? ⟨gb385, 3, none⟩ = some (.int .i64 a1_3) ∧ w'.cell? ⟨gb385, 4, none⟩ = some (.int .i64 a1_4) ∧ w'.cell? ⟨gb385, 5, none⟩ = some (.string a1_5)) (ds := []) #[false, false, false, false, false, false, false, false, false, false, false, false, false] (by kernel_rfl) rfl rfl ⟨(blk_cell BK384.out 0).trans rfl, (blk_cell BK384.out 1).trans rfl, (blk_cell BK385.out 0).trans rfl, (blk_cell BK385.out 1).trans rfl, (blk_cell BK385.out 2).trans rfl, (blk_cell BK385.out 3).trans rfl, (blk_cell BK385.out 4).trans rfl, (blk_cell BK385.out 5).trans rfl⟩ (fun hHeld => ?_); refine with_tabW rollcalllaw17_QueuePushes.tab3 rollcalllaw17_QueuePushes.bits3 (fun HT_ HW_ => ?_)
          generalize wc.drew = w28 at BK384 BK385 HB hHeld ⊢
          refine pure_ (i := 2) (N := some 19) (v := ?_) (a' := ?_) #[false, false, true, false, false, false, false, false, false, false, false, false, false] rfl rfl (any_of HT_.out (by kernel_rfl)) (fun _ _ _ h => h) (Or.inl ⟨by rfl, ?_⟩) ?_ ?_
          rotate_left
          · intro w'
            go_simp
            with_reducible rfl
          rotate_left
          · simp only [Act.put, List.setIfInBounds_toArray, List.set_cons_zero, List.set_cons_succ, i64_w, i32_w]
            rfl
          refine pure_ (i := 6) (N := some 23) (v := ?_) (a' := ?_) #[false, false, true, false, false, false, true, false, false, false, false, false, false] rfl rfl (any_of HT_.out (by kernel_rfl)) (fun _ _ _ h => h) (Or.inl ⟨by rfl, ?_⟩) ?_ ?_
          rotate_left
          · intro w'
            go_simp
            with_reducible rfl
          rotate_left
          · simp only [Act.put, List.setIfInBounds_toArray, List.set_cons_zero, List.set_cons_succ, i64_w, i32_w]
            rfl
          refine take_ (i := 0) (N := some 17) (v := ?_) (a' := ?_) #[true, false, true, false, false, false, true, false, false, false, false, false, false] rfl rfl (take_ofW HT_.out HW_.out (by kernel_rfl)) (fun _ _ _ h => h) (Or.inl ⟨by rfl, ?_⟩) hHeld ?_ ?_
          rotate_left
          · rintro w' ⟨s0, s1, s2, s3, s4, s5, s6, s7⟩
            go_simp
            with_reducible rfl
          rotate_left
          · simp only [Act.put, List.setIfInBounds_toArray, List.set_cons_zero, List.set_cons_succ, i64_w, i32_w]
            rfl
          refine take_ (i := 1) (N := some 18) (v := ?_) (a' := ?_) #[true, true, true, false, false, false, true, false, false, false, false, false, false] rfl rfl (take_ofW HT_.out HW_.out (by kernel_rfl)) (fun _ _ _ h => h) (Or.inl ⟨by rfl, ?_⟩) hHeld ?_ ?_
          rotate_left
          · rintro w' ⟨s0, s1, s2, s3, s4, s5, s6, s7⟩
            go_simp
            with_reducible rfl
          rotate_left
          · simp only [Act.put, List.setIfInBounds_toArray, List.set_cons_zero, List.set_cons_succ, i64_w, i32_w]
            rfl
          refine take_ (i := 4) (N := some 21) (v := ?_) (a' := ?_) #[true, true, true, false, true, false, true, false, false, false, false, false, false] rfl rfl (take_ofW HT_.out HW_.out (by kernel_rfl)) (fun _ _ _ h => h) (Or.inl ⟨by rfl, ?_⟩) hHeld ?_ ?_
          rotate_left
          · rintro w' ⟨s0, s1, s2, s3, s4, s5, s6, s7⟩
            go_simp
            with_reducible rfl
          rotate_left
          · simp only [Act.put, List.setIfInBounds_toArray, List.set_cons_zero, List.set_cons_succ, i64_w, i32_w]
            rfl
          refine take_ (i := 5) (N := some 22) (v := ?_) (a' := ?_) #[true, true, true, false, true, true, true, false, false, false, false, false, false] rfl rfl (take_ofW HT_.out HW_.out (by kernel_rfl)) (fun _ _ _ h => h) (Or.inl ⟨by rfl, ?_⟩) hHeld ?_ ?_
          rotate_left
          · rintro w' ⟨s0, s1, s2, s3, s4, s5, s6, s7⟩
            go_simp
            with_reducible rfl
          rotate_left
          · simp only [Act.put, List.setIfInBounds_toArray, List.set_cons_zero, List.set_cons_succ, i64_w, i32_w]
            rfl
          refine one_ (i := 3) (N := some 20) #[true, true, true, true, true, true, true, false, false, false, false, false, false] rfl rfl (one_of HT_.out (by kernel_rfl)) (by decide) (fun K hK => ?_)
          refine goes_ Try.func26 (by kernel_rfl) rfl #[.agg #[.slice A0_0 l0_0.length c0_0, .bool a0_1], .agg #[.string a1_0, .bool a1_1, .int .i64 a1_2, .int .i64 a1_3, .int .i64 a1_4, .string a1_5], .int .i64 a2] (by rfl) rfl rfl (by (try simp only [List.map_toArray, List.map_cons, List.map_nil]); first | done | rfl | (simp only [List.length_drop, List.length_take]; rfl)) ?_
          with_reducible refine (queue_Push.calls (fun k_ => k_ < w.heap.size) _ _ l0_0 a0_1 a1_0 a1_1 a1_2 a1_3 a1_4 a1_5 a2 t392 t395 _ ?side1 A23.out).mono ?_
          (case side1 => exact Kd.V_mk HC0_0.out (Kd.F_below (Kd.C_F k33_heap HR0_0.out) (by repeat (first | (with_reducible first | exact HB.out | apply below_alloc | apply pw_below_drewN | apply below_drew1 | refine below_set ?_ GE384.out | refine below_set ?_ GE385.out) | exact HB.out))))
          rintro e w29 ⟨v393, rfl, ho0, hb⟩
          refine ⟨_, rfl, ?_⟩
          have HO394 := Aside0.mk (Kd.V_lower (Kd.V_mono (ok' := fun k_ => k_ ≠ gb384 ∧ k_ ≠ gb385) ho0 (fun k_ hk_ => ⟨Or.elim hk_ (fun hs_ => fun e_ => Nat.not_le.2 hs_ (by rw [e_]; exact GW384.out)) (fun hn_ => (Kd.freshB (g := gb384) (o := .cells #[.slice A0_0 l0_0.length c0_0, .bool a0_1] 24 (0, 0)) (bS BK384.out) k_ hn_)), Or.elim hk_ (fun hs_ => fun e_ => Nat.not_le.2 hs_ (by rw [e_]; exact GW385.out)) (fun hn_ => (Kd.freshB (g := gb385) (o := .cells #[.string a1_0, .bool a1_1, .int .i64 a1_2, .int .i64 a1_3, .int .i64 a1_4, .string a1_5] 33 (0, 0)) (bS BK385.out) k_ hn_))⟩)) (below_size (by repeat (first | (with_reducible first | exact HB.out | apply below_alloc | apply pw_below_drewN | apply below_drew1 | refine below_set ?_ GE384.out | refine below_set ?_ GE385.out) | exact HB.out))))
          replace BK384 := Aside0.mk (blk_below (bS BK384.out) hb)
          replace BK385 := Aside0.mk (blk_below (bS BK385.out) hb)
          replace HB := Aside0.mk (below_step (by repeat (first | (with_reducible first | exact HB.out | apply below_alloc | apply pw_below_drewN | apply below_drew1 | refine below_set ?_ GE384.out | refine below_set ?_ GE385.out) | exact HB.out)) hb)
          (try clear hb)
          (try clear hb2)
          (try clear hk)
          (try clear hi)
          (try clear ho0)
          refine hK.out _ _ ⟨(blk_cell BK384.out 0).trans rfl, (blk_cell BK384.out 1).trans rfl, (blk_cell BK385.out 0).trans rfl, (blk_cell BK385.out 1).trans rfl, (blk_cell BK385.out 2).trans rfl, (blk_cell BK385.out 3).trans rfl, (blk_cell BK385.out 4).trans rfl, (blk_cell BK385.out 5).trans rfl⟩ (fun hHeld => ?_)
          clear hK K
          refine norm_ (a' := ?_) ?_ ?_
          rotate_left
          · show Act.put _ (some 20) _ = _
            simp only [Act.put, List.setIfInBounds_toArray, List.set_cons_zero, List.set_cons_succ, i64_w, i32_w]
            rfl
          refine one_ (i := 7) (N := some 24) #[true, true, true, true, true, true, true, true, false, false, false, false, false] rfl rfl (one_of HT_.out (by kernel_rfl)) (by decide) (fun K hK => ?_)
          refine goes_ Try.func27 (by kernel_rfl) rfl #[.agg #[.slice A0_0 l0_0.length c0_0, .bool a0_1], .agg #[.string a1_0, .bool a1_1, .int .i64 a1_2, .int .i64 a1_3, .int .i64 a1_4, .string a1_5], .int .i64 a2] (by rfl) rfl rfl (by (try simp only [List.map_toArray, List.map_cons, List.map_nil]); first | done | rfl | (simp only [List.length_drop, List.length_take]; rfl)) ?_
          with_reducible refine (rollcallref17_Push.calls kj3 (fun k_ => k_ < w.heap.size) _ _ l0_0 a0_1 a1_0 a1_1 a1_2 a1_3 a1_4 a1_5 a2 t396 t399 _ ?side1 A24.out).mono ?_
          (case side1 => exact Kd.V_mk HC0_0.out (Kd.F_below (Kd.C_F k33_heap HR0_0.out) (by repeat (first | (with_reducible first | exact HB.out | apply below_alloc | apply pw_below_drewN | apply below_drew1 | refine below_set ?_ GE384.out | refine below_set ?_ GE385.out) | exact HB.out))))
          rintro e w30 ⟨v397, rfl, ho0, hb⟩
          refine ⟨_, rfl, ?_⟩
          replace HO394 := Aside0.mk (Kd.V_below (vS HO394.out) hb)
          have HO398 := Aside0.mk (Kd.V_lower (Kd.V_mono (ok' := fun k_ => k_ ≠ gb384 ∧ k_ ≠ gb385) ho0 (fun k_ hk_ => ⟨Or.elim hk_ (fun hs_ => fun e_ => Nat.not_le.2 hs_ (by rw [e_]; exact GW384.out)) (fun hn_ => (Kd.freshB (g := gb384) (o := .cells #[.slice A0_0 l0_0.length c0_0, .bool a0_1] 24 (0, 0)) (bS BK384.out) k_ hn_)), Or.elim hk_ (fun hs_ => fun e_ => Nat.not_le.2 hs_ (by rw [e_]; exact GW385.out)) (fun hn_ => (Kd.freshB (g := gb385) (o := .cells #[.string a1_0, .bool a1_1, .int .i64 a1_2, .int .i64 a1_3, .int .i64 a1_4, .string a1_5] 33 (0, 0)) (bS BK385.out) k_ hn_))⟩)) (below_size (by repeat (first | (with_reducible first | exact HB.out | apply below_alloc | apply pw_below_drewN | apply below_drew1 | refine below_set ?_ GE384.out | refine below_set ?_ GE385.out) | exact HB.out))))
          replace BK384 := Aside0.mk (blk_below (bS BK384.out) hb)
          replace BK385 := Aside0.mk (blk_below (bS BK385.out) hb)
          replace HB := Aside0.mk (below_step (by repeat (first | (with_reducible first | exact HB.out | apply below_alloc | apply pw_below_drewN | apply below_drew1 | refine below_set ?_ GE384.out | refine below_set ?_ GE385.out) | exact HB.out)) hb)
          (try clear hb)
          (try clear hb2)
          (try clear hk)
          (try clear hi)
          (try clear ho0)
          obtain ⟨Ao31, co31, eo31⟩ := Kd.V_slice HO394.out
          (first | subst eo31 | (injection eo31 with f1_ f2_ f3_; have f4_ := f1_.symm; have f5_ := f3_.symm; clear f1_ f2_ f3_; subst f4_; subst f5_))
          obtain ⟨Ao32, co32, eo32⟩ := Kd.V_slice HO398.out
          (first | subst eo32 | (injection eo32 with f1_ f2_ f3_; have f4_ := f1_.symm; have f5_ := f3_.symm; clear f1_ f2_ f3_; subst f4_; subst f5_))
          refine hK.out _ _ ⟨(blk_cell BK384.out 0).trans rfl, (blk_cell BK384.out 1).trans rfl, (blk_cell BK385.out 0).trans rfl, (blk_cell BK385.out 1).trans rfl, (blk_cell BK385.out 2).trans rfl, (blk_cell BK385.out 3).trans rfl, (blk_cell BK385.out 4).trans rfl, (blk_cell BK385.out 5).trans rfl⟩ (fun hHeld => ?_)
          clear hK K
          refine norm_ (a' := ?_) ?_ ?_
          rotate_left
          · show Act.put _ (some 24) _ = _
            simp only [Act.put, List.setIfInBounds_toArray, List.set_cons_zero, List.set_cons_succ, i64_w, i32_w]
            rfl
          refine one_ (i := 8) (N := some 25) #[true, true, true, true, true, true, true, true, true, false, false, false, false] rfl rfl (one_of HT_.out (by kernel_rfl)) (by decide) (fun K hK => ?_)
          refine goes_ Try.func19 (by kernel_rfl) rfl #[.agg #[.slice Ao31 t392.length co31, .bool t395], .agg #[.slice Ao32 t396.length co32, .bool t399]] (by rfl) rfl rfl (by (try simp only [List.map_toArray, List.map_cons, List.map_nil]); first | done | rfl | (simp only [List.length_drop, List.length_take]; rfl)) ?_
          with_reducible refine (rollcallref17_Same.calls kj3 _ _ t392 t395 _ _ t396 t399 true _ ?side1 ?side2 ?side3 ?side4 A25.out).mono ?_
          (case side1 => repeat (first | exact (Kd.V_reads' HO394.out).2.2 | (with_reducible refine Kd.C_alloc ?_ _) | (with_reducible refine Kd.C_drewN ?_ _) | (with_reducible refine Kd.C_drew ?_)))
          (case side2 => exact (Kd.V_reads' HO394.out).2.1)
          (case side3 => repeat (first | exact (Kd.V_reads' HO398.out).2.2 | (with_reducible refine Kd.C_alloc ?_ _) | (with_reducible refine Kd.C_drewN ?_ _) | (with_reducible refine Kd.C_drew ?_)))
          (case side4 => exact (Kd.V_reads' HO398.out).2.1)
          rintro e w33 ⟨rfl, hb⟩
          refine ⟨_, rfl, ?_⟩
          replace HO394 := Aside0.mk (Kd.V_below (vS HO394.out) hb)
          replace HO398 := Aside0.mk (Kd.V_below (vS HO398.out) hb)
          replace BK384 := Aside0.mk (blk_below (bS BK384.out) hb)
          replace BK385 := Aside0.mk (blk_below (bS BK385.out) hb)
          replace HB := Aside0.mk (below_step (by repeat (first | (with_reducible first | exact HB.out | apply below_alloc | apply pw_below_drewN | apply below_drew1 | refine below_set ?_ GE384.out | refine below_set ?_ GE385.out) | exact HB.out)) hb)
          (try clear hb)
          (try clear hb2)
          (try clear hk)
          (try clear hi)
          refine hK.out _ _ ⟨(blk_cell BK384.out 0).trans rfl, (blk_cell BK384.out 1).trans rfl, (blk_cell BK385.out 0).trans rfl, (blk_cell BK385.out 1).trans rfl, (blk_cell BK385.out 2).trans rfl, (blk_cell BK385.out 3).trans rfl, (blk_cell BK385.out 4).trans rfl, (blk_cell BK385.out 5).trans rfl⟩ (fun hHeld => ?_)
          clear hK K
          refine norm_ (a' := ?_) ?_ ?_
          rotate_left
          · show Act.put _ (some 25) _ = _
            simp only [Act.put, List.setIfInBounds_toArray, List.set_cons_zero, List.set_cons_succ, i64_w, i32_w]
            rfl
          refine pure_ (i := 9) (N := some 26) (v := ?_) (a' := ?_) #[true, true, true, true, true, true, true, true, true, true, false, false, false] rfl rfl (any_of HT_.out (by kernel_rfl)) (fun _ _ _ h => h) (Or.inl ⟨by rfl, ?_⟩) ?_ ?_
          rotate_left
          · intro w'
            go_simp
            with_reducible rfl
          rotate_left
          · simp only [Act.put, List.setIfInBounds_toArray, List.set_cons_zero, List.set_cons_succ, i64_w, i32_w]
            rfl
          refine one_ (i := 10) (N := some 27) #[true, true, true, true, true, true, true, true, true, true, true, false, false] rfl rfl (one_of HT_.out (by kernel_rfl)) (by decide) (fun K hK => ?_)
          refine goes_ Try.func10 (by kernel_rfl) rfl #[] (by rfl) rfl rfl (by (try simp only [List.map_toArray, List.map_cons, List.map_nil]); first | done | rfl | (simp only [List.length_drop, List.length_take]; rfl)) ?_
          with_reducible refine (rollcalllaw17_live.calls kj3  t401 _ A27.out).mono ?_
          rintro e w34 ⟨rfl, hb⟩
          refine ⟨_, rfl, ?_⟩
          replace HO394 := Aside0.mk (Kd.V_below (vS HO394.out) hb)
          replace HO398 := Aside0.mk (Kd.V_below (vS HO398.out) hb)
          replace BK384 := Aside0.mk (blk_below (bS BK384.out) hb)
          replace BK385 := Aside0.mk (blk_below (bS BK385.out) hb)
          replace HB := Aside0.mk (below_step (by repeat (first | (with_reducible first | exact HB.out | apply below_alloc | apply pw_below_drewN | apply below_drew1 | refine below_set ?_ GE384.out | refine below_set ?_ GE385.out) | exact HB.out)) hb)
          (try clear hb)
          (try clear hb2)
          (try clear hk)
          (try clear hi)
          refine hK.out _ _ ⟨(blk_cell BK384.out 0).trans rfl, (blk_cell BK384.out 1).trans rfl, (blk_cell BK385.out 0).trans rfl, (blk_cell BK385.out 1).trans rfl, (blk_cell BK385.out 2).trans rfl, (blk_cell BK385.out 3).trans rfl, (blk_cell BK385.out 4).trans rfl, (blk_cell BK385.out 5).trans rfl⟩ (fun hHeld => ?_)
          clear hK K
          refine norm_ (a' := ?_) ?_ ?_
          rotate_left
          · show Act.put _ (some 27) _ = _
            simp only [Act.put, List.setIfInBounds_toArray, List.set_cons_zero, List.set_cons_succ, i64_w, i32_w]
            rfl
          refine pure_ (i := 11) (N := some 28) (v := ?_) (a' := ?_) #[true, true, true, true, true, true, true, true, true, true, true, true, false] rfl rfl (any_of HT_.out (by kernel_rfl)) (fun _ _ _ h => h) (Or.inl ⟨by rfl, ?_⟩) ?_ ?_
          rotate_left
          · intro w'
            go_simp
            with_reducible rfl
          rotate_left
          · simp only [Act.put, List.setIfInBounds_toArray, List.set_cons_zero, List.set_cons_succ, i64_w, i32_w]
            rfl
          refine pure_ (i := 12) (N := some 6) (v := ?_) (a' := ?_) #[true, true, true, true, true, true, true, true, true, true, true, true, true] rfl rfl (any_of HT_.out (by kernel_rfl)) (fun _ _ _ h => h) (Or.inl ⟨by rfl, ?_⟩) ?_ ?_
          rotate_left
          · intro w'
            go_simp
            with_reducible rfl
          rotate_left
          · simp only [Act.put, List.setIfInBounds_toArray, List.set_cons_zero, List.set_cons_succ, i64_w, i32_w]
            rfl
          refine done_ (done_of HT_.out (by kernel_rfl)) ?_
          try go_wp2
          go_ret
          exact ⟨by first | rfl | (simp [errW_none, errW_some] <;> rfl) | (simp [*, errW_none, errW_some] <;> rfl), by repeat (first | (with_reducible first | exact HB.out | apply below_alloc | apply pw_below_drewN | apply below_drew1 | refine below_set ?_ GE384.out | refine below_set ?_ GE385.out) | exact HB.out)⟩
        · replace c26 := Bool.eq_false_iff.mpr c26
          subst c26
          have H1 : (some false) = some r := by rw [if_neg (show ¬ (false = true) by decide)] at H; exact H
          clear H
          have H := H1
          clear H1
          exact absurd ((Option.some.inj H).trans HT.out) (by simp)

/-- THE PURE STATEMENT of rollcalllaw17_QueuePushes. -/
def rollcalllaw17_QueuePushes.Pure : Prop := ∀ (l0_0 : List (S33)) (a0_1 : Bool) (a1_0 : ByteArray) (a1_1 : Bool) (a1_2 : Int) (a1_3 : Int) (a1_4 : Int) (a1_5 : ByteArray) (a2 : Int), l0_0.length ≤ maxLen → (∀ x_ ∈ l0_0, Ok33 x_) → a1_0.size ≤ maxLen → (Lit.int .i64 a1_2).wf = true → (Lit.int .i64 a1_3).wf = true → (Lit.int .i64 a1_4).wf = true → a1_5.size ≤ maxLen → (Lit.int .i64 a2).wf = true → ∃ k, rollcalllaw17_QueuePushes.f k l0_0 a0_1 a1_0 a1_1 a1_2 a1_3 a1_4 a1_5 a2 = some true
theorem rollcalllaw17_QueuePushes.walkx (P : rollcalllaw17_QueuePushes.Pure) (A0_0 : Option Addr) (c0_0 : Nat) (l0_0 : List (S33)) (a0_1 : Bool) (a1_0 : ByteArray) (a1_1 : Bool) (a1_2 : Int) (a1_3 : Int) (a1_4 : Int) (a1_5 : ByteArray) (a2 : Int) (w : World) (hr0_0 : Kd.C k33 w A0_0 l0_0.length l0_0) (hc0_0 : l0_0.length ≤ c0_0) (q0 : l0_0.length ≤ maxLen) (q1 : (∀ x_ ∈ l0_0, Ok33 x_)) (q2 : a1_0.size ≤ maxLen) (q3 : (Lit.int .i64 a1_2).wf = true) (q4 : (Lit.int .i64 a1_3).wf = true) (q5 : (Lit.int .i64 a1_4).wf = true) (q6 : a1_5.size ≤ maxLen) (q7 : (Lit.int .i64 a2).wf = true) :
    Calls Try.prog 4 #[.agg #[.slice A0_0 l0_0.length c0_0, .bool a0_1], .agg #[.string a1_0, .bool a1_1, .int .i64 a1_2, .int .i64 a1_3, .int .i64 a1_4, .string a1_5], .int .i64 a2] w fun e w' => e = .returned (.bool true) ∧ Below w.heap.size w w' := by
  obtain ⟨k, h⟩ := P l0_0 a0_1 a1_0 a1_1 a1_2 a1_3 a1_4 a1_5 a2 q0 q1 q2 q3 q4 q5 q6 q7
  refine (rollcalllaw17_QueuePushes.calls k A0_0 c0_0 l0_0 a0_1 a1_0 a1_1 a1_2 a1_3 a1_4 a1_5 a2 true rfl w hr0_0 hc0_0 h).mono ?_
  rintro e w' ⟨rfl, hd⟩
  exact ⟨rfl, hd⟩

end Go.Proofs.Ythcmelchgnekpaa.PA
