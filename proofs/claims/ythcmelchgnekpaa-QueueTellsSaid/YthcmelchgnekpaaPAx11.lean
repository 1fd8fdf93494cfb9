-- Written by a program of this session (wip/tools/xprint.py), which drives the kit's print.
import Derived.Test.YthcmelchgnekpaaPAx0
import Derived.Test.YthcmelchgnekpaaPAx8
import Derived.Test.YthcmelchgnekpaaPAx10
namespace Go.Proofs.Ythcmelchgnekpaa.PA
open Go.RowKit Go.Proofs.YthcmelchgnekpaaW.PrintWords Go.Proofs.YthcmelchgnekpaaW.PrintLast Go.Proofs.YthcmelchgnekpaaW.PrintMore
attribute [local go_sem] max2_int min2_int max_two min_two max_three min_three max_four min_four   -- for this text's walks alone
set_option linter.unusedVariables false
set_option linter.unusedSimpArgs false

/-! ### rollcallref05_Set: function 38 -/
mutual
def rollcallref05_Set.l0 : Nat → List (S52) → List (S52) → Int → ByteArray → Bool → Int → Int → Int → ByteArray → Option ((List (S52)))
  | 0, _, _, _, _, _, _, _, _, _ => none
  | k + 1, x0, x5, x6, x275000, x275001, x275002, x275003, x275004, x275005 => if x6 < (x0.length : Int) then (if 0 ≤ x6 then (if ((rd_T52 x0 x6).f0).toList = x275000.toList then (rollcallref05_Set.l0 k x0 x5 (wrap64 (x6 + 1)) x275000 x275001 x275002 x275003 x275004 x275005) else (if x5.length < 2513169434916 then (rollcallref05_Set.l0 k x0 (x5 ++ [(⟨(rd_T52 x0 x6).f0, (⟨(rd_T52 x0 x6).f1.f0, (rd_T52 x0 x6).f1.f1, (rd_T52 x0 x6).f1.f2, (rd_T52 x0 x6).f1.f3⟩ : S31)⟩ : S52)]) (wrap64 (x6 + 1)) x275000 x275001 x275002 x275003 x275004 x275005) else (none))) else (none)) else (if x275001 = true then (rollcallref05_Set.l1 k x5 0 0 x275000 x275001 x275002 x275003 x275004 x275005) else (some x5))
def rollcallref05_Set.l1 : Nat → List (S52) → Int → Int → ByteArray → Bool → Int → Int → Int → ByteArray → Option ((List (S52)))
  | 0, _, _, _, _, _, _, _, _, _ => none
  | k + 1, x5, x7, x8, x275000, x275001, x275002, x275003, x275004, x275005 => if x8 < (x5.length : Int) then (if 0 ≤ x8 then ((rollcallref03_Less.f ((rd_T52 x5 x8).f0) x275000).bind fun t281 => (if t281 = true then (rollcallref05_Set.l1 k x5 (wrap64 (x8 + 1)) (wrap64 (x8 + 1)) x275000 x275001 x275002 x275003 x275004 x275005) else (rollcallref05_Set.l1 k x5 x7 (wrap64 (x8 + 1)) x275000 x275001 x275002 x275003 x275004 x275005))) else (none)) else ((some (([] : List (S52)) : List (S52))).bind fun y282 => (if 0 ≤ x7 then (if x7 ≤ (x5.length : Int) then ((some (x5.take (x7 : Int).toNat : List (S52))).bind fun y285 => (if y282.length + y285.length < 2513169434916 then ((some (y282 ++ y285 : List (S52))).bind fun y289 => (if y289.length < 2513169434916 then ((some (y289 ++ [(⟨x275000, (⟨x275002, x275003, x275004, x275005⟩ : S31)⟩ : S52)] : List (S52))).bind fun y292 => ((some (x5.drop (x7 : Int).toNat : List (S52))).bind fun y295 => (if y292.length + y295.length < 2513169434916 then (some (y292 ++ y295)) else (none)))) else (none))) else (none))) else (none)) else (none)))
end
def rollcallref05_Set.f (k : Nat) (l0 : List (S52)) (a1_0 : ByteArray) (a1_1 : Bool) (a1_2 : Int) (a1_3 : Int) (a1_4 : Int) (a1_5 : ByteArray) : Option ((List (S52))) := rollcallref05_Set.l0 k l0 ([] : List (S52)) 0 a1_0 a1_1 a1_2 a1_3 a1_4 a1_5
theorem rollcallref05_Set.mono_l : ∀ k, (∀ y0 y1 y2 y3 y4 y5 y6 y7 y8, LeO (rollcallref05_Set.l0 k y0 y1 y2 y3 y4 y5 y6 y7 y8) (rollcallref05_Set.l0 (k + 1) y0 y1 y2 y3 y4 y5 y6 y7 y8)) ∧ (∀ y0 y1 y2 y3 y4 y5 y6 y7 y8, LeO (rollcallref05_Set.l1 k y0 y1 y2 y3 y4 y5 y6 y7 y8) (rollcallref05_Set.l1 (k + 1) y0 y1 y2 y3 y4 y5 y6 y7 y8))
  | 0 => ⟨fun _ _ _ _ _ _ _ _ _ r h => by simp [rollcallref05_Set.l0] at h, fun _ _ _ _ _ _ _ _ _ r h => by simp [rollcallref05_Set.l1] at h⟩
  | k + 1 => by
    obtain ⟨ih0, ih1⟩ := rollcallref05_Set.mono_l k
    refine ⟨?_, ?_⟩
    · intro y0 y1 y2 y3 y4 y5 y6 y7 y8
      unfold rollcallref05_Set.l0
      repeat' first
      | (with_reducible exact ih0 _ _ _ _ _ _ _ _ _)
      | (with_reducible exact ih1 _ _ _ _ _ _ _ _ _)
      | (with_reducible exact LeO.refl _)
      | (with_reducible exact LeO.none _)
      | (with_reducible refine LeO.ite ?_ ?_)
      | (with_reducible refine LeO.bind ?_ (fun _ => ?_))
      | exact ih0 _ _ _ _ _ _ _ _ _
      | exact ih1 _ _ _ _ _ _ _ _ _
      | exact LeO.none _
      | refine LeO.ite ?_ ?_
      | refine LeO.bind ?_ (fun _ => ?_)
    · intro y0 y1 y2 y3 y4 y5 y6 y7 y8
      unfold rollcallref05_Set.l1
      repeat' first
      | (with_reducible exact ih0 _ _ _ _ _ _ _ _ _)
      | (with_reducible exact ih1 _ _ _ _ _ _ _ _ _)
      | (with_reducible exact LeO.refl _)
      | (with_reducible exact LeO.none _)
      | (with_reducible refine LeO.ite ?_ ?_)
      | (with_reducible refine LeO.bind ?_ (fun _ => ?_))
      | exact ih0 _ _ _ _ _ _ _ _ _
      | exact ih1 _ _ _ _ _ _ _ _ _
      | exact LeO.none _
      | refine LeO.ite ?_ ?_
      | refine LeO.bind ?_ (fun _ => ?_)
theorem rollcallref05_Set.mono : ∀ a0 a1 a2 a3 a4 a5 a6 k, LeO (rollcallref05_Set.f k a0 a1 a2 a3 a4 a5 a6) (rollcallref05_Set.f (k + 1) a0 a1 a2 a3 a4 a5 a6) := by
  intro a0 a1 a2 a3 a4 a5 a6 k
  obtain ⟨ih0, ih1⟩ := rollcallref05_Set.mono_l k
  unfold rollcallref05_Set.f
  repeat' first
      | (with_reducible exact ih0 _ _ _ _ _ _ _ _ _)
      | (with_reducible exact ih1 _ _ _ _ _ _ _ _ _)
      | (with_reducible exact LeO.refl _)
      | (with_reducible exact LeO.none _)
      | (with_reducible refine LeO.ite ?_ ?_)
      | (with_reducible refine LeO.bind ?_ (fun _ => ?_))
      | exact ih0 _ _ _ _ _ _ _ _ _
      | exact ih1 _ _ _ _ _ _ _ _ _
      | exact LeO.none _
      | refine LeO.ite ?_ ?_
      | refine LeO.bind ?_ (fun _ => ?_)
set_option maxHeartbeats 8000000 in
set_option maxRecDepth 100000 in
theorem rollcallref05_Set.calls (k : Nat) (A0 : Option Addr) (c0 : Nat) (l0 : List (S52)) (a1_0 : ByteArray) (a1_1 : Bool) (a1_2 : Int) (a1_3 : Int) (a1_4 : Int) (a1_5 : ByteArray) (r : List (S52)) (w : World) (hr0 : Kd.C k52 w A0 l0.length l0) (hc0 : l0.length ≤ c0) (h : rollcallref05_Set.f k l0 a1_0 a1_1 a1_2 a1_3 a1_4 a1_5 = some r) :
    Calls Try.prog 38 #[.slice A0 l0.length c0, .agg #[.string a1_0, .bool a1_1, .int .i64 a1_2, .int .i64 a1_3, .int .i64 a1_4, .string a1_5]] w fun e w' => ∃ v0_ : Value, e = .returned (v0_) ∧ Kd.R k52 52 w' w.heap.size (fun _ => True) v0_ r ∧ Below w.heap.size w w' := by
  have hu33 := Try.underlying33
  have hu52 := Try.underlying52
  have hu31 := Try.underlying31
  have HR0 := Aside0.mk hr0
  have HC0 := Aside0.mk hc0
  clear hr0 hc0
  have HB := Aside0.mk (Below.refl w.heap.size w)
  have H : (rollcallref05_Set.l0 k l0 ([] : List (S52)) 0 a1_0 a1_1 a1_2 a1_3 a1_4 a1_5) = some r := h
  clear h
  have H' := Aside0.mk H
  clear H
  go_enter Try.func38, Try.ntmps38
  go_wp2_with (first | ((with_reducible refine gate_dst (N := 3) rfl ?_); refine box_event ?hg (N := 3) ?hd (cs := #[.string a1_0, .bool a1_1, .int .i64 a1_2, .int .i64 a1_3, .int .i64 a1_4, .string a1_5]) (t := 33) ?hr ?_; (case hd => rfl); (case hg => rfl); (case hr => first | (go_simp; done) | (go_simp; rfl)); intro gb274 hg w3 hbox hb; have BK274 := Aside0.mk (hbox); have GW274 := Aside0.mk ((by rw [hg]; exact (below_size (hS HB.out)) : w.heap.size ≤ gb274)); have GE274 := Aside0.mk ((by rw [hg]; exact (below_size (hS HB.out)) : w.heap.size ≤ gb274)); replace HB := Aside0.mk (below_step (hS HB.out) hb); clear hb hbox hg))
  repeat (go_quiet (first | ((with_reducible refine gate_dst (N := 3) rfl ?_); refine box_event ?hg (N := 3) ?hd (cs := #[.string a1_0, .bool a1_1, .int .i64 a1_2, .int .i64 a1_3, .int .i64 a1_4, .string a1_5]) (t := 33) ?hr ?_; (case hd => rfl); (case hg => rfl); (case hr => first | (go_simp; done) | (go_simp; rfl)); intro gb274 hg w3 hbox hb; have BK274 := Aside0.mk (hbox); have GW274 := Aside0.mk ((by rw [hg]; exact (below_size (hS HB.out)) : w.heap.size ≤ gb274)); have GE274 := Aside0.mk ((by rw [hg]; exact (below_size (hS HB.out)) : w.heap.size ≤ gb274)); replace HB := Aside0.mk (below_step (hS HB.out) hb); clear hb hbox hg)); try go_wp2_with (first | ((with_reducible refine gate_dst (N := 3) rfl ?_); refine box_event ?hg (N := 3) ?hd (cs := #[.string a1_0, .bool a1_1, .int .i64 a1_2, .int .i64 a1_3, .int .i64 a1_4, .string a1_5]) (t := 33) ?hr ?_; (case hd => rfl); (case hg => rfl); (case hr => first | (go_simp; done) | (go_simp; rfl)); intro gb274 hg w3 hbox hb; have BK274 := Aside0.mk (hbox); have GW274 := Aside0.mk ((by rw [hg]; exact (below_size (hS HB.out)) : w.heap.size ≤ gb274)); have GE274 := Aside0.mk ((by rw [hg]; exact (below_size (hS HB.out)) : w.heap.size ≤ gb274)); replace HB := Aside0.mk (below_step (hS HB.out) hb); clear hb hbox hg)))
  go_loopg [5, 6] k (fun kq v5 v6 w' => ∃ (x5_1 : List (S52)) (x6_1 : Int), v6 = .int .i64 x6_1 ∧ Aside0 (rollcallref05_Set.l0 kq l0 x5_1 x6_1 a1_0 a1_1 a1_2 a1_3 a1_4 a1_5 = some r) ∧ Aside0 (kq ≤ k) ∧ Aside0 (Kd.R k52 52 w' w.heap.size (fun _ => True) v5 x5_1) ∧ Aside0 (w'.heap[gb274]? = some (.cells #[.string a1_0, .bool a1_1, .int .i64 a1_2, .int .i64 a1_3, .int .i64 a1_4, .string a1_5] 33 (0, 0))) ∧ Aside0 (Below w.heap.size w w'))
  case atStart => exact ⟨(([] : List (S52))), (0), (by first | rfl | (simp; done) | (simp [*]; done)), H', ⟨Nat.le_refl _⟩, ⟨by first | exact Kd.R_nil _ _ _ _ _ | exact Kd.N_nil _ _ _ _ _ | exact Kd.V_nil _ _ _ _ _ | exact Kd.Q_nil _ _ _ _ _ | exact Kd.S_nil _ _ _ _ _⟩, ⟨bS BK274.out⟩, ⟨by repeat (first | (with_reducible first | exact HB.out | apply below_alloc | apply pw_below_drewN | apply below_drew1 | refine below_set ?_ GE274.out) | exact HB.out)⟩⟩
  case round =>
    clear H'
    try clear p2
    try clear c3
    obtain ⟨x5_1, x6_1, rfl, HA, HK1, HO_5, BK274, HB⟩ := hrel
    cases gk with
    | zero => exact absurd HA.out (by simp [rollcallref05_Set.l0])
    | succ k1 =>
      have H := HA.out
      clear HA
      simp only [rollcallref05_Set.l0] at H
      by_cases c4 : x6_1 < (l0.length : Int)
      · rw [if_pos c4] at H
        have c4b0 : decide (x6_1 < (l0.length : Int)) = true := decide_eq_true c4
        clear c4
        by_cases c5 : 0 ≤ x6_1
        · rw [if_pos c5] at H
          have c5b0 : decide (0 ≤ x6_1) = true := decide_eq_true c5
          clear c5
          by_cases c6 : ((rd_T52 l0 x6_1).f0).toList = a1_0.toList
          · rw [if_pos c6] at H
            have c6b0 : (((rd_T52 l0 x6_1).f0).toList == a1_0.toList) = true := beq_iff_eq.mpr c6
            have c6b1 : (((rd_T52 l0 x6_1).f0).toList != a1_0.toList) = false := bne_eq_false_iff_eq.mpr c6
            clear c6
            have H' := Aside0.mk H
            clear H
            have p275 : 0 ≤ (x6_1 : Int) := of_decide_eq_true (by first | (with_reducible assumption) | assumption)
            have q275 : x6_1 < (l0.length : Int) := of_decide_eq_true (by first | (with_reducible assumption) | assumption)
            obtain ⟨ad275, e275, hx275_0, hx275_1, hx275_2, hx275_3, hx275_4⟩ := at_T52 HR0.out x6_1 p275 q275
            cases e275
            replace hx275_0 := (HB.out.cell (World.block_lt_of_cell? w _ hx275_0)).trans hx275_0
            replace hx275_1 := (HB.out.cell (World.block_lt_of_cell? w _ hx275_1)).trans hx275_1
            replace hx275_2 := (HB.out.cell (World.block_lt_of_cell? w _ hx275_2)).trans hx275_2
            replace hx275_3 := (HB.out.cell (World.block_lt_of_cell? w _ hx275_3)).trans hx275_3
            replace hx275_4 := (HB.out.cell (World.block_lt_of_cell? w _ hx275_4)).trans hx275_4
            replace p275 := eq_true p275
            replace q275 := eq_true q275
            have hcz7_0 : wr.cell? ⟨gb274, 0, none⟩ = some (.string a1_0) := (blk_cell BK274.out 0).trans rfl
            have hcz7_1 : wr.cell? ⟨gb274, 1, none⟩ = some (.bool a1_1) := (blk_cell BK274.out 1).trans rfl
            have hcz7_2 : wr.cell? ⟨gb274, 2, none⟩ = some (.int .i64 a1_2) := (blk_cell BK274.out 2).trans rfl
            have hcz7_3 : wr.cell? ⟨gb274, 3, none⟩ = some (.int .i64 a1_3) := (blk_cell BK274.out 3).trans rfl
            have hcz7_4 : wr.cell? ⟨gb274, 4, none⟩ = some (.int .i64 a1_4) := (blk_cell BK274.out 4).trans rfl
            have hcz7_5 : wr.cell? ⟨gb274, 5, none⟩ = some (.string a1_5) := (blk_cell BK274.out 5).trans rfl
            have hfz7_0 := blk_frozen BK274.out 0
            have hfz7_1 := blk_frozen BK274.out 1
            have hfz7_2 := blk_frozen BK274.out 2
            have hfz7_3 := blk_frozen BK274.out 3
            have hfz7_4 := blk_frozen BK274.out 4
            have hfz7_5 := blk_frozen BK274.out 5
            go_wp2
            repeat (go_quiet (fail); try go_wp2)
            go_roundg k1
            case measure => have := HK1.out; omega
            case rel => exact ⟨(x5_1), (wrap64 (x6_1 + 1)), (by first | rfl | (simp; done) | (simp [*]; done)), H', ⟨by have := HK1.out; omega⟩, ⟨rS HO_5.out⟩, ⟨bS BK274.out⟩, ⟨by repeat (first | (with_reducible first | exact HB.out | apply below_alloc | apply pw_below_drewN | apply below_drew1 | refine below_set ?_ GE274.out) | exact HB.out)⟩⟩
          · rw [if_neg c6] at H
            have c6b0 : (((rd_T52 l0 x6_1).f0).toList == a1_0.toList) = false := beq_eq_false_iff_ne.mpr c6
            have c6b1 : (((rd_T52 l0 x6_1).f0).toList != a1_0.toList) = true := bne_iff_ne.mpr c6
            by_cases c8 : x5_1.length < 2513169434916
            · rw [if_pos c8] at H
              have LMc8 := Aside0.mk c8
              clear c8
              obtain ⟨y277, hy277⟩ : ∃ y_ : List (S52), y_ = (x5_1 ++ [(⟨(rd_T52 l0 x6_1).f0, (⟨(rd_T52 l0 x6_1).f1.f0, (rd_T52 l0 x6_1).f1.f1, (rd_T52 l0 x6_1).f1.f2, (rd_T52 l0 x6_1).f1.f3⟩ : S31)⟩ : S52)]) := ⟨_, rfl⟩
              replace H : (rollcallref05_Set.l0 k1 l0 y277 (wrap64 (x6_1 + 1)) a1_0 a1_1 a1_2 a1_3 a1_4 a1_5) = some r := by first | (rw [hy277]; with_reducible exact H) | (have H2_ := (Option.bind_some _ _).symm.trans H; rw [hy277]; with_reducible exact H2_) | (have H2_ := (Option.bind_some _ _).symm.trans H; with_reducible exact H2_) | with_reducible exact H | (rw [hy277]; exact H) | exact H
              have Ny277 := Aside0.mk hy277
              clear hy277
              have H' := Aside0.mk H
              clear H
              have p275 : 0 ≤ (x6_1 : Int) := of_decide_eq_true (by first | (with_reducible assumption) | assumption)
              have q275 : x6_1 < (l0.length : Int) := of_decide_eq_true (by first | (with_reducible assumption) | assumption)
              obtain ⟨ad275, e275, hx275_0, hx275_1, hx275_2, hx275_3, hx275_4⟩ := at_T52 HR0.out x6_1 p275 q275
              cases e275
              replace hx275_0 := (HB.out.cell (World.block_lt_of_cell? w _ hx275_0)).trans hx275_0
              replace hx275_1 := (HB.out.cell (World.block_lt_of_cell? w _ hx275_1)).trans hx275_1
              replace hx275_2 := (HB.out.cell (World.block_lt_of_cell? w _ hx275_2)).trans hx275_2
              replace hx275_3 := (HB.out.cell (World.block_lt_of_cell? w _ hx275_3)).trans hx275_3
              replace hx275_4 := (HB.out.cell (World.block_lt_of_cell? w _ hx275_4)).trans hx275_4
              replace p275 := eq_true p275
              replace q275 := eq_true q275
              have hcz9_0 : wr.cell? ⟨gb274, 0, none⟩ = some (.string a1_0) := (blk_cell BK274.out 0).trans rfl
              have hcz9_1 : wr.cell? ⟨gb274, 1, none⟩ = some (.bool a1_1) := (blk_cell BK274.out 1).trans rfl
              have hcz9_2 : wr.cell? ⟨gb274, 2, none⟩ = some (.int .i64 a1_2) := (blk_cell BK274.out 2).trans rfl
              have hcz9_3 : wr.cell? ⟨gb274, 3, none⟩ = some (.int .i64 a1_3) := (blk_cell BK274.out 3).trans rfl
              have hcz9_4 : wr.cell? ⟨gb274, 4, none⟩ = some (.int .i64 a1_4) := (blk_cell BK274.out 4).trans rfl
              have hcz9_5 : wr.cell? ⟨gb274, 5, none⟩ = some (.string a1_5) := (blk_cell BK274.out 5).trans rfl
              have hfz9_0 := blk_frozen BK274.out 0
              have hfz9_1 := blk_frozen BK274.out 1
              have hfz9_2 := blk_frozen BK274.out 2
              have hfz9_3 := blk_frozen BK274.out 3
              have hfz9_4 := blk_frozen BK274.out 4
              have hfz9_5 := blk_frozen BK274.out 5
              have p276 : 0 ≤ (x6_1 : Int) := of_decide_eq_true (by first | (with_reducible assumption) | assumption)
              have q276 : x6_1 < (l0.length : Int) := of_decide_eq_true (by first | (with_reducible assumption) | assumption)
              obtain ⟨ad276, e276, hx276_0, hx276_1, hx276_2, hx276_3, hx276_4⟩ := at_T52 HR0.out x6_1 p276 q276
              obtain rfl : ad275 = ad276 := (by injection e276)
              replace hx276_0 := (HB.out.cell (World.block_lt_of_cell? w _ hx276_0)).trans hx276_0
              replace hx276_1 := (HB.out.cell (World.block_lt_of_cell? w _ hx276_1)).trans hx276_1
              replace hx276_2 := (HB.out.cell (World.block_lt_of_cell? w _ hx276_2)).trans hx276_2
              replace hx276_3 := (HB.out.cell (World.block_lt_of_cell? w _ hx276_3)).trans hx276_3
              replace hx276_4 := (HB.out.cell (World.block_lt_of_cell? w _ hx276_4)).trans hx276_4
              replace p276 := eq_true p276
              replace q276 := eq_true q276
              go_wp2_with (first | ((with_reducible refine gate_builtin (b := .append) (xs := #[.tmp 24, .tmp 29]) rfl ?_); at_builtin; refine Kd.R_append k52 (w0 := w) w.heap.size rfl (.tmp 24) (.tmp 29) 25 52 (.agg #[(.string ⟨#[]⟩), (.int .i64 0), (.int .i64 0), (.int .i64 0), (.string ⟨#[]⟩)]) 56 rfl Try.underlying25 info52 rfl (by decide) (by omega) u5 x5_1 (⟨(rd_T52 l0 x6_1).f0, (⟨(rd_T52 l0 x6_1).f1.f0, (rd_T52 l0 x6_1).f1.f1, (rd_T52 l0 x6_1).f1.f2, (rd_T52 l0 x6_1).f1.f3⟩ : S31)⟩ : S52) [.string ((rd_T52 l0 x6_1).f0), .int .i64 ((rd_T52 l0 x6_1).f1.f0), .int .i64 ((rd_T52 l0 x6_1).f1.f1), .int .i64 ((rd_T52 l0 x6_1).f1.f2), .string ((rd_T52 l0 x6_1).f1.f3)] (fun _ => True) (fun _ => False) rfl rfl ?aP (fun _ hk => hk.elim) ?aF ?aO ?aB ?aS ?aL ?_; (case aP => exact k52_mkM _ _ _ (⟨(rd_T52 l0 x6_1).f0, (⟨(rd_T52 l0 x6_1).f1.f0, (rd_T52 l0 x6_1).f1.f1, (rd_T52 l0 x6_1).f1.f2, (rd_T52 l0 x6_1).f1.f3⟩ : S31)⟩ : S52)); (case aB => exact (hS HB.out)); (case aF => exact (fun _ _ => trivial)); (case aO => exact (rS HO_5.out)); (case aS => exact (below_size (hS HB.out))); (case aL => have := LMc8.out; omega); intro v278 w10 ho hb hg hat; rw [← Ny277.out] at ho; replace BK274 := Aside0.mk (blk_grown (bS BK274.out) hg (Kd.R_ne HO_5.out BK274.out (by decide))); replace HB := Aside0.mk (hb); have HO279 := Aside0.mk (ho); clear HO_5; clear ho hb hg hat))
              repeat (go_quiet (first | ((with_reducible refine gate_builtin (b := .append) (xs := #[.tmp 24, .tmp 29]) rfl ?_); at_builtin; refine Kd.R_append k52 (w0 := w) w.heap.size rfl (.tmp 24) (.tmp 29) 25 52 (.agg #[(.string ⟨#[]⟩), (.int .i64 0), (.int .i64 0), (.int .i64 0), (.string ⟨#[]⟩)]) 56 rfl Try.underlying25 info52 rfl (by decide) (by omega) u5 x5_1 (⟨(rd_T52 l0 x6_1).f0, (⟨(rd_T52 l0 x6_1).f1.f0, (rd_T52 l0 x6_1).f1.f1, (rd_T52 l0 x6_1).f1.f2, (rd_T52 l0 x6_1).f1.f3⟩ : S31)⟩ : S52) [.string ((rd_T52 l0 x6_1).f0), .int .i64 ((rd_T52 l0 x6_1).f1.f0), .int .i64 ((rd_T52 l0 x6_1).f1.f1), .int .i64 ((rd_T52 l0 x6_1).f1.f2), .string ((rd_T52 l0 x6_1).f1.f3)] (fun _ => True) (fun _ => False) rfl rfl ?aP (fun _ hk => hk.elim) ?aF ?aO ?aB ?aS ?aL ?_; (case aP => exact k52_mkM _ _ _ (⟨(rd_T52 l0 x6_1).f0, (⟨(rd_T52 l0 x6_1).f1.f0, (rd_T52 l0 x6_1).f1.f1, (rd_T52 l0 x6_1).f1.f2, (rd_T52 l0 x6_1).f1.f3⟩ : S31)⟩ : S52)); (case aB => exact (hS HB.out)); (case aF => exact (fun _ _ => trivial)); (case aO => exact (rS HO_5.out)); (case aS => exact (below_size (hS HB.out))); (case aL => have := LMc8.out; omega); intro v278 w10 ho hb hg hat; rw [← Ny277.out] at ho; replace BK274 := Aside0.mk (blk_grown (bS BK274.out) hg (Kd.R_ne HO_5.out BK274.out (by decide))); replace HB := Aside0.mk (hb); have HO279 := Aside0.mk (ho); clear HO_5; clear ho hb hg hat)); try go_wp2_with (first | ((with_reducible refine gate_builtin (b := .append) (xs := #[.tmp 24, .tmp 29]) rfl ?_); at_builtin; refine Kd.R_append k52 (w0 := w) w.heap.size rfl (.tmp 24) (.tmp 29) 25 52 (.agg #[(.string ⟨#[]⟩), (.int .i64 0), (.int .i64 0), (.int .i64 0), (.string ⟨#[]⟩)]) 56 rfl Try.underlying25 info52 rfl (by decide) (by omega) u5 x5_1 (⟨(rd_T52 l0 x6_1).f0, (⟨(rd_T52 l0 x6_1).f1.f0, (rd_T52 l0 x6_1).f1.f1, (rd_T52 l0 x6_1).f1.f2, (rd_T52 l0 x6_1).f1.f3⟩ : S31)⟩ : S52) [.string ((rd_T52 l0 x6_1).f0), .int .i64 ((rd_T52 l0 x6_1).f1.f0), .int .i64 ((rd_T52 l0 x6_1).f1.f1), .int .i64 ((rd_T52 l0 x6_1).f1.f2), .string ((rd_T52 l0 x6_1).f1.f3)] (fun _ => True) (fun _ => False) rfl rfl ?aP (fun _ hk => hk.elim) ?aF ?aO ?aB ?aS ?aL ?_; (case aP => exact k52_mkM _ _ _ (⟨(rd_T52 l0 x6_1).f0, (⟨(rd_T52 l0 x6_1).f1.f0, (rd_T52 l0 x6_1).f1.f1, (rd_T52 l0 x6_1).f1.f2, (rd_T52 l0 x6_1).f1.f3⟩ : S31)⟩ : S52)); (case aB => exact (hS HB.out)); (case aF => exact (fun _ _ => trivial)); (case aO => exact (rS HO_5.out)); (case aS => exact (below_size (hS HB.out))); (case aL => have := LMc8.out; omega); intro v278 w10 ho hb hg hat; rw [← Ny277.out] at ho; replace BK274 := Aside0.mk (blk_grown (bS BK274.out) hg (Kd.R_ne HO_5.out BK274.out (by decide))); replace HB := Aside0.mk (hb); have HO279 := Aside0.mk (ho); clear HO_5; clear ho hb hg hat)))
              go_roundg k1
              case measure => have := HK1.out; omega
              case rel => exact ⟨(y277), (wrap64 (x6_1 + 1)), (by first | rfl | (simp; done) | (simp [*]; done)), H', ⟨by have := HK1.out; omega⟩, ⟨rS HO279.out⟩, ⟨bS BK274.out⟩, ⟨by repeat (first | (with_reducible first | exact HB.out | apply below_alloc | apply pw_below_drewN | apply below_drew1 | refine below_set ?_ GE274.out) | exact HB.out)⟩⟩
            · rw [if_neg c8] at H
              exact absurd H (by simp)
        · rw [if_neg c5] at H
          exact absurd H (by simp)
      · rw [if_neg c4] at H
        have c4b0 : decide (x6_1 < (l0.length : Int)) = false := decide_eq_false c4
        clear c4
        by_cases c11 : a1_1 = true
        · subst c11
          have H1 : (rollcallref05_Set.l1 k1 x5_1 0 0 a1_0 true a1_2 a1_3 a1_4 a1_5) = some r := by rw [if_pos rfl] at H; exact H
          clear H
          have H := H1
          clear H1
          have H' := Aside0.mk H
          clear H
          have hcz12_0 : wr.cell? ⟨gb274, 0, none⟩ = some (.string a1_0) := (blk_cell BK274.out 0).trans rfl
          have hcz12_1 : wr.cell? ⟨gb274, 1, none⟩ = some (.bool true) := (blk_cell BK274.out 1).trans rfl
          have hcz12_2 : wr.cell? ⟨gb274, 2, none⟩ = some (.int .i64 a1_2) := (blk_cell BK274.out 2).trans rfl
          have hcz12_3 : wr.cell? ⟨gb274, 3, none⟩ = some (.int .i64 a1_3) := (blk_cell BK274.out 3).trans rfl
          have hcz12_4 : wr.cell? ⟨gb274, 4, none⟩ = some (.int .i64 a1_4) := (blk_cell BK274.out 4).trans rfl
          have hcz12_5 : wr.cell? ⟨gb274, 5, none⟩ = some (.string a1_5) := (blk_cell BK274.out 5).trans rfl
          have hfz12_0 := blk_frozen BK274.out 0
          have hfz12_1 := blk_frozen BK274.out 1
          have hfz12_2 := blk_frozen BK274.out 2
          have hfz12_3 := blk_frozen BK274.out 3
          have hfz12_4 := blk_frozen BK274.out 4
          have hfz12_5 := blk_frozen BK274.out 5
          go_wp2
          repeat (go_quiet (fail); try go_wp2)
          go_loopg [7, 8] k1 (fun kq v7 v8 w' => ∃ (x7_2 : Int) (x8_2 : Int), v7 = .int .i64 x7_2 ∧ v8 = .int .i64 x8_2 ∧ Aside0 (rollcallref05_Set.l1 kq x5_1 x7_2 x8_2 a1_0 true a1_2 a1_3 a1_4 a1_5 = some r) ∧ Aside0 (kq ≤ k1) ∧ Aside0 (Kd.R k52 52 w' w.heap.size (fun _ => True) u5 x5_1) ∧ Aside0 (w'.heap[gb274]? = some (.cells #[.string a1_0, .bool true, .int .i64 a1_2, .int .i64 a1_3, .int .i64 a1_4, .string a1_5] 33 (0, 0))) ∧ Aside0 (Below w.heap.size w w'))
          case atStart => exact ⟨(0), (0), (by first | rfl | (simp; done) | (simp [*]; done)), (by first | rfl | (simp; done) | (simp [*]; done)), H', ⟨Nat.le_refl _⟩, ⟨rS HO_5.out⟩, ⟨bS BK274.out⟩, ⟨by repeat (first | (with_reducible first | exact HB.out | apply below_alloc | apply pw_below_drewN | apply below_drew1 | refine below_set ?_ GE274.out) | exact HB.out)⟩⟩
          case round =>
            clear H'
            try clear c1
            try clear p2
            try clear q2
            try clear hx2
            try clear c3
            try clear c4
            try clear c4b0
            try clear c5
            try clear c5b0
            try clear c6
            try clear c6b0
            try clear c6b1
            try clear p6
            try clear c8
            try clear c11
            try clear hcz12_0
            try clear hcz12_1
            try clear hcz12_2
            try clear hcz12_3
            try clear hcz12_4
            try clear hcz12_5
            try clear hcz7_0
            try clear hcz7_1
            try clear hcz7_2
            try clear hcz7_3
            try clear hcz7_4
            try clear hcz7_5
            try clear hcz9_0
            try clear hcz9_1
            try clear hcz9_2
            try clear hcz9_3
            try clear hcz9_4
            try clear hcz9_5
            try clear hfz12_0
            try clear hfz12_1
            try clear hfz12_2
            try clear hfz12_3
            try clear hfz12_4
            try clear hfz12_5
            try clear hfz7_0
            try clear hfz7_1
            try clear hfz7_2
            try clear hfz7_3
            try clear hfz7_4
            try clear hfz7_5
            try clear hfz9_0
            try clear hfz9_1
            try clear hfz9_2
            try clear hfz9_3
            try clear hfz9_4
            try clear hfz9_5
            try clear hx275_0
            try clear hx275_1
            try clear hx275_2
            try clear hx275_3
            try clear hx275_4
            try clear hx276_0
            try clear hx276_1
            try clear hx276_2
            try clear hx276_3
            try clear hx276_4
            try clear p2
            try clear p275
            try clear p276
            try clear q275
            try clear q276
            obtain ⟨x7_2, x8_2, rfl, rfl, HA, HK2, HO_5, BK274, HB⟩ := hrel
            cases gk with
            | zero => exact absurd HA.out (by simp [rollcallref05_Set.l1])
            | succ k2 =>
              have H := HA.out
              clear HA
              simp only [rollcallref05_Set.l1] at H
              by_cases c13 : x8_2 < (x5_1.length : Int)
              · rw [if_pos c13] at H
                have c13b0 : decide (x8_2 < (x5_1.length : Int)) = true := decide_eq_true c13
                clear c13
                by_cases c14 : 0 ≤ x8_2
                · rw [if_pos c14] at H
                  have c14b0 : decide (0 ≤ x8_2) = true := decide_eq_true c14
                  clear c14
                  replace H := Option.bind_eq_some_iff.mp H
                  obtain ⟨t281, A150, H⟩ := H
                  replace H : (if t281 = true then (rollcallref05_Set.l1 k2 x5_1 (wrap64 (x8_2 + 1)) (wrap64 (x8_2 + 1)) a1_0 true a1_2 a1_3 a1_4 a1_5) else (rollcallref05_Set.l1 k2 x5_1 x7_2 (wrap64 (x8_2 + 1)) a1_0 true a1_2 a1_3 a1_4 a1_5)) = some r := H
                  have A15 := Aside0.mk A150
                  clear A150
                  by_cases c16 : t281 = true
                  · subst c16
                    have H1 : (rollcallref05_Set.l1 k2 x5_1 (wrap64 (x8_2 + 1)) (wrap64 (x8_2 + 1)) a1_0 true a1_2 a1_3 a1_4 a1_5) = some r := by rw [if_pos rfl] at H; exact H
                    clear H
                    have H := H1
                    clear H1
                    have H' := Aside0.mk H
                    clear H
                    obtain ⟨Ao17, co17, eo17⟩ := Kd.R_slice HO_5.out
                    subst eo17
                    have p280 : 0 ≤ (x8_2 : Int) := of_decide_eq_true (by first | (with_reducible assumption) | assumption)
                    have q280 : x8_2 < (x5_1.length : Int) := of_decide_eq_true (by first | (with_reducible assumption) | assumption)
                    obtain ⟨ad280, e280, hx280_0, hx280_1, hx280_2, hx280_3, hx280_4⟩ := at_T52 (Kd.R_reads' HO_5.out).2.2 x8_2 p280 q280
                    cases e280
                    replace p280 := eq_true p280
                    replace q280 := eq_true q280
                    have hcz18_0 : wr.cell? ⟨gb274, 0, none⟩ = some (.string a1_0) := (blk_cell BK274.out 0).trans rfl
                    have hcz18_1 : wr.cell? ⟨gb274, 1, none⟩ = some (.bool true) := (blk_cell BK274.out 1).trans rfl
                    have hcz18_2 : wr.cell? ⟨gb274, 2, none⟩ = some (.int .i64 a1_2) := (blk_cell BK274.out 2).trans rfl
                    have hcz18_3 : wr.cell? ⟨gb274, 3, none⟩ = some (.int .i64 a1_3) := (blk_cell BK274.out 3).trans rfl
                    have hcz18_4 : wr.cell? ⟨gb274, 4, none⟩ = some (.int .i64 a1_4) := (blk_cell BK274.out 4).trans rfl
                    have hcz18_5 : wr.cell? ⟨gb274, 5, none⟩ = some (.string a1_5) := (blk_cell BK274.out 5).trans rfl
                    have hfz18_0 := blk_frozen BK274.out 0
                    have hfz18_1 := blk_frozen BK274.out 1
                    have hfz18_2 := blk_frozen BK274.out 2
                    have hfz18_3 := blk_frozen BK274.out 3
                    have hfz18_4 := blk_frozen BK274.out 4
                    have hfz18_5 := blk_frozen BK274.out 5
                    go_wp2_with (first | (go_at_call 41; (with_reducible refine (rollcallref03_Less.calls ((rd_T52 x5_1 x8_2).f0) a1_0 true _ A15.out).mono ?_); rintro e w' ⟨rfl, ⟨nd, rfl⟩⟩; (try first | exact ⟨rfl, _, World.drewN_drewN _ _ _⟩ | exact ⟨rfl, _, Eq.trans (World.drewN_drewN _ _ _) (congrArg (World.drewN _) (Nat.add_assoc _ _ _))⟩)))
                    repeat (go_quiet (first | (go_at_call 41; (with_reducible refine (rollcallref03_Less.calls ((rd_T52 x5_1 x8_2).f0) a1_0 true _ A15.out).mono ?_); rintro e w' ⟨rfl, ⟨nd, rfl⟩⟩; (try first | exact ⟨rfl, _, World.drewN_drewN _ _ _⟩ | exact ⟨rfl, _, Eq.trans (World.drewN_drewN _ _ _) (congrArg (World.drewN _) (Nat.add_assoc _ _ _))⟩))); try go_wp2_with (first | (go_at_call 41; (with_reducible refine (rollcallref03_Less.calls ((rd_T52 x5_1 x8_2).f0) a1_0 true _ A15.out).mono ?_); rintro e w' ⟨rfl, ⟨nd, rfl⟩⟩; (try first | exact ⟨rfl, _, World.drewN_drewN _ _ _⟩ | exact ⟨rfl, _, Eq.trans (World.drewN_drewN _ _ _) (congrArg (World.drewN _) (Nat.add_assoc _ _ _))⟩))))
                    go_roundg k2
                    case measure => have := HK1.out; have := HK2.out; omega
                    case rel => exact ⟨(wrap64 (x8_2 + 1)), (wrap64 (x8_2 + 1)), (by first | rfl | (simp; done) | (simp [*]; done)), (by first | rfl | (simp; done) | (simp [*]; done)), H', ⟨by have := HK1.out; have := HK2.out; omega⟩, ⟨rS HO_5.out⟩, ⟨bS BK274.out⟩, ⟨by repeat (first | (with_reducible first | exact HB.out | apply below_alloc | apply pw_below_drewN | apply below_drew1 | refine below_set ?_ GE274.out) | exact HB.out)⟩⟩
                  · replace c16 := Bool.eq_false_iff.mpr c16
                    subst c16
                    have H1 : (rollcallref05_Set.l1 k2 x5_1 x7_2 (wrap64 (x8_2 + 1)) a1_0 true a1_2 a1_3 a1_4 a1_5) = some r := by rw [if_neg (show ¬ (false = true) by decide)] at H; exact H
                    clear H
                    have H := H1
                    clear H1
                    have H' := Aside0.mk H
                    clear H
                    obtain ⟨Ao19, co19, eo19⟩ := Kd.R_slice HO_5.out
                    subst eo19
                    have p280 : 0 ≤ (x8_2 : Int) := of_decide_eq_true (by first | (with_reducible assumption) | assumption)
                    have q280 : x8_2 < (x5_1.length : Int) := of_decide_eq_true (by first | (with_reducible assumption) | assumption)
                    obtain ⟨ad280, e280, hx280_0, hx280_1, hx280_2, hx280_3, hx280_4⟩ := at_T52 (Kd.R_reads' HO_5.out).2.2 x8_2 p280 q280
                    cases e280
                    replace p280 := eq_true p280
                    replace q280 := eq_true q280
                    have hcz20_0 : wr.cell? ⟨gb274, 0, none⟩ = some (.string a1_0) := (blk_cell BK274.out 0).trans rfl
                    have hcz20_1 : wr.cell? ⟨gb274, 1, none⟩ = some (.bool true) := (blk_cell BK274.out 1).trans rfl
                    have hcz20_2 : wr.cell? ⟨gb274, 2, none⟩ = some (.int .i64 a1_2) := (blk_cell BK274.out 2).trans rfl
                    have hcz20_3 : wr.cell? ⟨gb274, 3, none⟩ = some (.int .i64 a1_3) := (blk_cell BK274.out 3).trans rfl
                    have hcz20_4 : wr.cell? ⟨gb274, 4, none⟩ = some (.int .i64 a1_4) := (blk_cell BK274.out 4).trans rfl
                    have hcz20_5 : wr.cell? ⟨gb274, 5, none⟩ = some (.string a1_5) := (blk_cell BK274.out 5).trans rfl
                    have hfz20_0 := blk_frozen BK274.out 0
                    have hfz20_1 := blk_frozen BK274.out 1
                    have hfz20_2 := blk_frozen BK274.out 2
                    have hfz20_3 := blk_frozen BK274.out 3
                    have hfz20_4 := blk_frozen BK274.out 4
                    have hfz20_5 := blk_frozen BK274.out 5
                    go_wp2_with (first | (go_at_call 41; (with_reducible refine (rollcallref03_Less.calls ((rd_T52 x5_1 x8_2).f0) a1_0 false _ A15.out).mono ?_); rintro e w' ⟨rfl, ⟨nd, rfl⟩⟩; (try first | exact ⟨rfl, _, World.drewN_drewN _ _ _⟩ | exact ⟨rfl, _, Eq.trans (World.drewN_drewN _ _ _) (congrArg (World.drewN _) (Nat.add_assoc _ _ _))⟩)))
                    repeat (go_quiet (first | (go_at_call 41; (with_reducible refine (rollcallref03_Less.calls ((rd_T52 x5_1 x8_2).f0) a1_0 false _ A15.out).mono ?_); rintro e w' ⟨rfl, ⟨nd, rfl⟩⟩; (try first | exact ⟨rfl, _, World.drewN_drewN _ _ _⟩ | exact ⟨rfl, _, Eq.trans (World.drewN_drewN _ _ _) (congrArg (World.drewN _) (Nat.add_assoc _ _ _))⟩))); try go_wp2_with (first | (go_at_call 41; (with_reducible refine (rollcallref03_Less.calls ((rd_T52 x5_1 x8_2).f0) a1_0 false _ A15.out).mono ?_); rintro e w' ⟨rfl, ⟨nd, rfl⟩⟩; (try first | exact ⟨rfl, _, World.drewN_drewN _ _ _⟩ | exact ⟨rfl, _, Eq.trans (World.drewN_drewN _ _ _) (congrArg (World.drewN _) (Nat.add_assoc _ _ _))⟩))))
                    go_roundg k2
                    case measure => have := HK1.out; have := HK2.out; omega
                    case rel => exact ⟨(x7_2), (wrap64 (x8_2 + 1)), (by first | rfl | (simp; done) | (simp [*]; done)), (by first | rfl | (simp; done) | (simp [*]; done)), H', ⟨by have := HK1.out; have := HK2.out; omega⟩, ⟨rS HO_5.out⟩, ⟨bS BK274.out⟩, ⟨by repeat (first | (with_reducible first | exact HB.out | apply below_alloc | apply pw_below_drewN | apply below_drew1 | refine below_set ?_ GE274.out) | exact HB.out)⟩⟩
                · rw [if_neg c14] at H
                  exact absurd H (by simp)
              · rw [if_neg c13] at H
                have c13b0 : decide (x8_2 < (x5_1.length : Int)) = false := decide_eq_false c13
                clear c13
                obtain ⟨y282, hy282⟩ : ∃ y_ : List (S52), y_ = (([] : List (S52))) := ⟨_, rfl⟩
                replace H : (if 0 ≤ x7_2 then (if x7_2 ≤ (x5_1.length : Int) then ((some (x5_1.take (x7_2 : Int).toNat : List (S52))).bind fun y285 => (if y282.length + y285.length < 2513169434916 then ((some (y282 ++ y285 : List (S52))).bind fun y289 => (if y289.length < 2513169434916 then ((some (y289 ++ [(⟨a1_0, (⟨a1_2, a1_3, a1_4, a1_5⟩ : S31)⟩ : S52)] : List (S52))).bind fun y292 => ((some (x5_1.drop (x7_2 : Int).toNat : List (S52))).bind fun y295 => (if y292.length + y295.length < 2513169434916 then (some (y292 ++ y295)) else (none)))) else (none))) else (none))) else (none)) else (none)) = some r := by first | (rw [hy282]; with_reducible exact H) | (have H2_ := (Option.bind_some _ _).symm.trans H; rw [hy282]; with_reducible exact H2_) | (have H2_ := (Option.bind_some _ _).symm.trans H; with_reducible exact H2_) | with_reducible exact H | (rw [hy282]; exact H) | exact H
                have Ny282 := Aside0.mk hy282
                clear hy282
                by_cases c21 : 0 ≤ x7_2
                · rw [if_pos c21] at H
                  have c21b0 := eq_true c21
                  have c21b1 : decide (0 ≤ x7_2) = true := decide_eq_true c21
                  clear c21
                  by_cases c22 : x7_2 ≤ (x5_1.length : Int)
                  · rw [if_pos c22] at H
                    have c22b0 := eq_true c22
                    have c22b1 : decide (x7_2 ≤ (x5_1.length : Int)) = true := decide_eq_true c22
                    clear c22
                    obtain ⟨y285, hy285⟩ : ∃ y_ : List (S52), y_ = (x5_1.take (x7_2 : Int).toNat) := ⟨_, rfl⟩
                    replace H : (if y282.length + y285.length < 2513169434916 then ((some (y282 ++ y285 : List (S52))).bind fun y289 => (if y289.length < 2513169434916 then ((some (y289 ++ [(⟨a1_0, (⟨a1_2, a1_3, a1_4, a1_5⟩ : S31)⟩ : S52)] : List (S52))).bind fun y292 => ((some (x5_1.drop (x7_2 : Int).toNat : List (S52))).bind fun y295 => (if y292.length + y295.length < 2513169434916 then (some (y292 ++ y295)) else (none)))) else (none))) else (none)) = some r := by first | (rw [hy285]; with_reducible exact H) | (have H2_ := (Option.bind_some _ _).symm.trans H; rw [hy285]; with_reducible exact H2_) | (have H2_ := (Option.bind_some _ _).symm.trans H; with_reducible exact H2_) | with_reducible exact H | (rw [hy285]; exact H) | exact H
                    have Ny285 := Aside0.mk hy285
                    clear hy285
                    by_cases c23 : y282.length + y285.length < 2513169434916
                    · rw [if_pos c23] at H
                      have LMc23 := Aside0.mk c23
                      clear c23
                      obtain ⟨y289, hy289⟩ : ∃ y_ : List (S52), y_ = (y282 ++ y285) := ⟨_, rfl⟩
                      replace H : (if y289.length < 2513169434916 then ((some (y289 ++ [(⟨a1_0, (⟨a1_2, a1_3, a1_4, a1_5⟩ : S31)⟩ : S52)] : List (S52))).bind fun y292 => ((some (x5_1.drop (x7_2 : Int).toNat : List (S52))).bind fun y295 => (if y292.length + y295.length < 2513169434916 then (some (y292 ++ y295)) else (none)))) else (none)) = some r := by first | (rw [hy289]; with_reducible exact H) | (have H2_ := (Option.bind_some _ _).symm.trans H; rw [hy289]; with_reducible exact H2_) | (have H2_ := (Option.bind_some _ _).symm.trans H; with_reducible exact H2_) | with_reducible exact H | (rw [hy289]; exact H) | exact H
                      have Ny289 := Aside0.mk hy289
                      clear hy289
                      by_cases c24 : y289.length < 2513169434916
                      · rw [if_pos c24] at H
                        have LMc24 := Aside0.mk c24
                        clear c24
                        obtain ⟨y292, hy292⟩ : ∃ y_ : List (S52), y_ = (y289 ++ [(⟨a1_0, (⟨a1_2, a1_3, a1_4, a1_5⟩ : S31)⟩ : S52)]) := ⟨_, rfl⟩
                        replace H : ((some (x5_1.drop (x7_2 : Int).toNat : List (S52))).bind fun y295 => (if y292.length + y295.length < 2513169434916 then (some (y292 ++ y295)) else (none))) = some r := by first | (rw [hy292]; with_reducible exact H) | (have H2_ := (Option.bind_some _ _).symm.trans H; rw [hy292]; with_reducible exact H2_) | (have H2_ := (Option.bind_some _ _).symm.trans H; with_reducible exact H2_) | with_reducible exact H | (rw [hy292]; exact H) | exact H
                        have Ny292 := Aside0.mk hy292
                        clear hy292
                        have c25b0 := eq_true (of_decide_eq_true (by first | (with_reducible assumption) | assumption) : 0 ≤ x7_2)
                        have c26b0 := eq_true (of_decide_eq_true (by first | (with_reducible assumption) | assumption) : x7_2 ≤ (x5_1.length : Int))
                        obtain ⟨y295, hy295⟩ : ∃ y_ : List (S52), y_ = (x5_1.drop (x7_2 : Int).toNat) := ⟨_, rfl⟩
                        replace H : (if y292.length + y295.length < 2513169434916 then (some (y292 ++ y295)) else (none)) = some r := by first | (rw [hy295]; with_reducible exact H) | (have H2_ := (Option.bind_some _ _).symm.trans H; rw [hy295]; with_reducible exact H2_) | (have H2_ := (Option.bind_some _ _).symm.trans H; with_reducible exact H2_) | with_reducible exact H | (rw [hy295]; exact H) | exact H
                        have Ny295 := Aside0.mk hy295
                        clear hy295
                        by_cases c27 : y292.length + y295.length < 2513169434916
                        · rw [if_pos c27] at H
                          have LMc27 := Aside0.mk c27
                          clear c27
                          obtain ⟨y299, hy299⟩ : ∃ y_ : List (S52), y_ = (y292 ++ y295) := ⟨_, rfl⟩
                          replace H : (some y299) = some r := by first | (rw [hy299]; with_reducible exact H) | (have H2_ := (Option.bind_some _ _).symm.trans H; rw [hy299]; with_reducible exact H2_) | (have H2_ := (Option.bind_some _ _).symm.trans H; with_reducible exact H2_) | with_reducible exact H | (rw [hy299]; exact H) | exact H
                          have Ny299 := Aside0.mk hy299
                          clear hy299
                          obtain rfl := Option.some.inj H
                          obtain ⟨Ao28, co28, eo28⟩ := Kd.R_slice HO_5.out
                          subst eo28
                          go_wp2_with (first | ((with_reducible refine gate_dst (N := 51) rfl ?_); refine Kd.R_lit k52 _ 52 ?hg (N := 51) ?hd (xs := ([] : List (S52))) (inner := []) (ok := fun _ => True) (okp := fun _ => True) ?hr ?hp (fun _ hk => hk) trivial (Below.refl _ _) (Nat.le_refl _) (by simp) ?_; (case hd => rfl); (case hg => rfl); (case hr => first | (go_simp; done) | (go_simp; rfl)); (case hp => exact (Reps.none _ _)); intro v283 w29 ho30 hb hg_ hnew_; clear hg_ hnew_; (first | rw [← Ny282.out] at ho30 | (simp only [Int.reduceToNat] at ho30; rw [← Ny282.out] at ho30)); have HO284 := Aside0.mk (Kd.R_lower (Kd.R_new' ho30 (Kd.R_lt (rS HO_5.out))) (below_size (hS HB.out))); replace HO_5 := Aside0.mk (Kd.R_elder' (rS HO_5.out) (Kd.R_base ho30) hb); replace BK274 := Aside0.mk (blk_below (bS BK274.out) hb); replace HB := Aside0.mk (below_step (hS HB.out) hb); clear hb ho30; have q31 : (x7_2 : Int) ≤ ((x5_1.length : Int) : Int) := of_decide_eq_true (by first | (with_reducible assumption) | assumption); obtain ⟨i031, hi031, _, hsz31, _⟩ := info_parts info52; have hroom31 : x5_1.length ≤ co28 := (Kd.R_reads' HO_5.out).2.1; have hC31 : Kd.C k52 _ Ao28 x5_1.length x5_1 := (Kd.R_reads' HO_5.out).2.2; have hcut31 := cut_to (P := Try.prog) 25 52 .i64 Try.underlying25 hi031 Ao28 x5_1.length co28 x7_2 (of_decide_eq_true (by first | (with_reducible assumption) | assumption)) q31 hroom31; have hr31 := Kd.C_take (m := (x7_2 : Int).toNat) hC31 (by omega); have hy31 : y285.length = (x7_2 : Int).toNat := (by rw [Ny285.out, List.length_take]; omega); rw [← Ny285.out] at hr31; rw [← hy31] at hcut31; have HR288 := Aside0.mk hr31; have HC288 := Aside0.mk (show y285.length ≤ co28 from by omega); clear hr31 hC31 hroom31 hi031 hsz31; have KY31 := Aside0.mk hy31; clear hy31; have KL31 := Aside0.mk (show (x7_2 : Int).toNat ≤ x5_1.length from by omega); replace q31 := eq_true q31) | ((with_reducible refine gate_builtin (b := .append) (xs := #[.tmp 51, .tmp 54]) rfl ?_); at_builtin; refine Kd.R_append_rows k52 (w0 := w) w.heap.size rfl (.tmp 51) (.tmp 54) 25 52 (.agg #[(.string ⟨#[]⟩), (.int .i64 0), (.int .i64 0), (.int .i64 0), (.string ⟨#[]⟩)]) 56 rfl Try.underlying25 info52 rfl (by decide) (by omega) v283 y282 y285 _ _ _ (fun k_ => some k_ ≠ (.slice Ao28 x5_1.length co28 : Value).ownBlock) (fun _ => False) rfl rfl ?aO ?aR (fun _ _ h => h) (fun _ h => h.elim) ?aF ?aB ?aS ?aL ?_; (case aR => repeat (first | exact (by repeat (first | (with_reducible exact HR288.out) | (with_reducible refine Kd.C_alloc ?_ _) | (with_reducible refine Kd.C_drewN ?_ _) | (with_reducible refine Kd.C_drew ?_) | exact HR288.out)) | (with_reducible refine Kd.C_alloc ?_ _) | (with_reducible refine Kd.C_drewN ?_ _) | (with_reducible refine Kd.C_drew ?_))); (case aB => exact (hS HB.out)); (case aF => exact (fun k_ hk => Kd.fresh' (Kd.R_lt (rS HO_5.out)) k_ hk)); (case aO => exact (by (with_reducible repeat (first | apply Kd.R_alloc | apply Kd.R_drewN | apply Kd.R_drew)); exact Kd.R_mono HO284.out (fun _ hk => hk.2))); (case aS => exact (below_size (hS HB.out))); (case aL => have := LMc23.out; omega); intro v290 w32 ho hb hg hat; rw [← Ny289.out] at ho; replace BK274 := Aside0.mk (blk_grown (bS BK274.out) hg (Kd.R_ne HO284.out BK274.out (by decide))); replace HB := Aside0.mk (hb); replace HR288 := Aside0.mk ((show Kd.C k52 w32 Ao28 y285.length y285 from by rw [Ny285.out]; exact Kd.C_take (m := (x7_2 : Int).toNat) ((Kd.R_reads' (Kd.R_after (ok := (fun _ => True)) (rS HO_5.out) hg hat)).2.2) KL31.out)); replace HO_5 := Aside0.mk (Kd.R_after (ok := (fun _ => True)) (rS HO_5.out) hg hat); have HO291 := Aside0.mk (ho); clear HO284; clear ho hb hg hat; have hcz33_0 : w32.cell? ⟨gb274, 0, none⟩ = some (.string a1_0) := (blk_cell BK274.out 0).trans rfl; have hcz33_1 : w32.cell? ⟨gb274, 1, none⟩ = some (.bool true) := (blk_cell BK274.out 1).trans rfl; have hcz33_2 : w32.cell? ⟨gb274, 2, none⟩ = some (.int .i64 a1_2) := (blk_cell BK274.out 2).trans rfl; have hcz33_3 : w32.cell? ⟨gb274, 3, none⟩ = some (.int .i64 a1_3) := (blk_cell BK274.out 3).trans rfl; have hcz33_4 : w32.cell? ⟨gb274, 4, none⟩ = some (.int .i64 a1_4) := (blk_cell BK274.out 4).trans rfl; have hcz33_5 : w32.cell? ⟨gb274, 5, none⟩ = some (.string a1_5) := (blk_cell BK274.out 5).trans rfl; have hfz33_0 := blk_frozen BK274.out 0; have hfz33_1 := blk_frozen BK274.out 1; have hfz33_2 := blk_frozen BK274.out 2; have hfz33_3 := blk_frozen BK274.out 3; have hfz33_4 := blk_frozen BK274.out 4; have hfz33_5 := blk_frozen BK274.out 5) | ((with_reducible refine gate_builtin (b := .append) (xs := #[.tmp 56, .tmp 62]) rfl ?_); at_builtin; refine Kd.R_append k52 (w0 := w) w.heap.size rfl (.tmp 56) (.tmp 62) 25 52 (.agg #[(.string ⟨#[]⟩), (.int .i64 0), (.int .i64 0), (.int .i64 0), (.string ⟨#[]⟩)]) 56 rfl Try.underlying25 info52 rfl (by decide) (by omega) v290 y289 (⟨a1_0, (⟨a1_2, a1_3, a1_4, a1_5⟩ : S31)⟩ : S52) [.string a1_0, .int .i64 a1_2, .int .i64 a1_3, .int .i64 a1_4, .string a1_5] (fun k_ => some k_ ≠ (.slice Ao28 x5_1.length co28 : Value).ownBlock) (fun _ => False) rfl rfl ?aP (fun _ hk => hk.elim) ?aF ?aO ?aB ?aS ?aL ?_; (case aP => exact k52_mkM _ _ _ (⟨a1_0, (⟨a1_2, a1_3, a1_4, a1_5⟩ : S31)⟩ : S52)); (case aB => exact (hS HB.out)); (case aF => exact (fun k_ hk => Kd.fresh' (Kd.R_lt (rS HO_5.out)) k_ hk)); (case aO => exact (rS HO291.out)); (case aS => exact (below_size (hS HB.out))); (case aL => have := LMc24.out; omega); intro v293 w34 ho hb hg hat; rw [← Ny292.out] at ho; replace BK274 := Aside0.mk (blk_grown (bS BK274.out) hg (Kd.R_ne HO291.out BK274.out (by decide))); replace HB := Aside0.mk (hb); replace HR288 := Aside0.mk ((show Kd.C k52 w34 Ao28 y285.length y285 from by rw [Ny285.out]; exact Kd.C_take (m := (x7_2 : Int).toNat) ((Kd.R_reads' (Kd.R_after (ok := (fun _ => True)) (rS HO_5.out) hg hat)).2.2) KL31.out)); replace HO_5 := Aside0.mk (Kd.R_after (ok := (fun _ => True)) (rS HO_5.out) hg hat); have HO294 := Aside0.mk (ho); clear HO291; clear ho hb hg hat; have q35 : (x7_2 : Int) ≤ ((x5_1.length : Int) : Int) := of_decide_eq_true (by first | (with_reducible assumption) | assumption); obtain ⟨i035, hi035, _, hsz35, _⟩ := info_parts info52; have hroom35 : x5_1.length ≤ co28 := (Kd.R_reads' HO_5.out).2.1; have hC35 : Kd.C k52 _ Ao28 x5_1.length x5_1 := (Kd.R_reads' HO_5.out).2.2; have q035 : (0 : Int) ≤ (x7_2 : Int) := of_decide_eq_true (by first | (with_reducible assumption) | assumption); have hcut35 := cut_from (P := Try.prog) 25 52 .i64 Try.underlying25 hi035 5 hsz35 Ao28 x5_1.length co28 x7_2 q035 q35; have hr35 := Kd.C_drop (m := (x7_2 : Int).toNat) (c := co28) hC35 (by omega) hroom35; obtain ⟨A35, hA35⟩ : ∃ A1, A1 = (if co28 = (x7_2 : Int).toNat then Ao28 else (Ao28 : Option Addr).map (·.add ((x7_2 : Int).toNat * 5))) := ⟨_, rfl⟩; obtain ⟨c35, hc35⟩ : ∃ c1, c1 = co28 - (x7_2 : Int).toNat := ⟨_, rfl⟩; have hy35 : y295.length = x5_1.length - (x7_2 : Int).toNat := (by rw [Ny295.out, List.length_drop] <;> omega); rw [show (x5_1).drop (x7_2 : Int).toNat = y295 from Ny295.out.symm] at hr35; replace hr35 : Kd.C k52 _ A35 y295.length y295 := (by rw [hA35]; exact hr35); rw [← hy35, ← hA35, ← hc35] at hcut35; have HR298 := Aside0.mk hr35; have HC298 := Aside0.mk (show y295.length ≤ c35 from by rw [hy35, hc35]; exact Nat.sub_le_sub_right hroom35 _); clear hr35 hC35 hroom35 hi035 hsz35 hc35; have KY35 := Aside0.mk hy35; have KA35 := Aside0.mk hA35; clear hy35 hA35; have KL35 := Aside0.mk (show (x7_2 : Int).toNat ≤ x5_1.length from by omega); replace q35 := eq_true q35) | ((with_reducible refine gate_builtin (b := .append) (xs := #[.tmp 64, .tmp 67]) rfl ?_); at_builtin; refine Kd.R_append_rows k52 (w0 := w) w.heap.size rfl (.tmp 64) (.tmp 67) 25 52 (.agg #[(.string ⟨#[]⟩), (.int .i64 0), (.int .i64 0), (.int .i64 0), (.string ⟨#[]⟩)]) 56 rfl Try.underlying25 info52 rfl (by decide) (by omega) v293 y292 y295 _ _ _ (fun k_ => some k_ ≠ (.slice Ao28 x5_1.length co28 : Value).ownBlock) (fun _ => False) rfl rfl ?aO ?aR (fun _ _ h => h) (fun _ h => h.elim) ?aF ?aB ?aS ?aL ?_; (case aR => repeat (first | exact (by repeat (first | (with_reducible exact HR298.out) | (with_reducible refine Kd.C_alloc ?_ _) | (with_reducible refine Kd.C_drewN ?_ _) | (with_reducible refine Kd.C_drew ?_) | exact HR298.out)) | (with_reducible refine Kd.C_alloc ?_ _) | (with_reducible refine Kd.C_drewN ?_ _) | (with_reducible refine Kd.C_drew ?_))); (case aB => exact (hS HB.out)); (case aF => exact (fun k_ hk => Kd.fresh' (Kd.R_lt (rS HO_5.out)) k_ hk)); (case aO => exact (rS HO294.out)); (case aS => exact (below_size (hS HB.out))); (case aL => have := LMc27.out; omega); intro v300 w36 ho hb hg hat; rw [← Ny299.out] at ho; replace BK274 := Aside0.mk (blk_grown (bS BK274.out) hg (Kd.R_ne HO294.out BK274.out (by decide))); replace HB := Aside0.mk (hb); replace HR288 := Aside0.mk ((show Kd.C k52 w36 Ao28 y285.length y285 from by rw [Ny285.out]; exact Kd.C_take (m := (x7_2 : Int).toNat) ((Kd.R_reads' (Kd.R_after (ok := (fun _ => True)) (rS HO_5.out) hg hat)).2.2) KL31.out)); replace HR298 := Aside0.mk ((show Kd.C k52 w36 A35 y295.length y295 from by rw [Ny295.out, KA35.out]; exact Kd.C_drop (m := (x7_2 : Int).toNat) (c := co28) ((Kd.R_reads' (Kd.R_after (ok := (fun _ => True)) (rS HO_5.out) hg hat)).2.2) KL35.out ((Kd.R_reads' (Kd.R_after (ok := (fun _ => True)) (rS HO_5.out) hg hat)).2.1))); replace HO_5 := Aside0.mk (Kd.R_after (ok := (fun _ => True)) (rS HO_5.out) hg hat); have HO301 := Aside0.mk (ho); clear HO294; clear ho hb hg hat))
                          repeat (go_quiet (first | ((with_reducible refine gate_dst (N := 51) rfl ?_); refine Kd.R_lit k52 _ 52 ?hg (N := 51) ?hd (xs := ([] : List (S52))) (inner := []) (ok := fun _ => True) (okp := fun _ => True) ?hr ?hp (fun _ hk => hk) trivial (Below.refl _ _) (Nat.le_refl _) (by simp) ?_; (case hd => rfl); (case hg => rfl); (case hr => first | (go_simp; done) | (go_simp; rfl)); (case hp => exact (Reps.none _ _)); intro v283 w29 ho30 hb hg_ hnew_; clear hg_ hnew_; (first | rw [← Ny282.out] at ho30 | (simp only [Int.reduceToNat] at ho30; rw [← Ny282.out] at ho30)); have HO284 := Aside0.mk (Kd.R_lower (Kd.R_new' ho30 (Kd.R_lt (rS HO_5.out))) (below_size (hS HB.out))); replace HO_5 := Aside0.mk (Kd.R_elder' (rS HO_5.out) (Kd.R_base ho30) hb); replace BK274 := Aside0.mk (blk_below (bS BK274.out) hb); replace HB := Aside0.mk (below_step (hS HB.out) hb); clear hb ho30; have q31 : (x7_2 : Int) ≤ ((x5_1.length : Int) : Int) := of_decide_eq_true (by first | (with_reducible assumption) | assumption); obtain ⟨i031, hi031, _, hsz31, _⟩ := info_parts info52; have hroom31 : x5_1.length ≤ co28 := (Kd.R_reads' HO_5.out).2.1; have hC31 : Kd.C k52 _ Ao28 x5_1.length x5_1 := (Kd.R_reads' HO_5.out).2.2; have hcut31 := cut_to (P := Try.prog) 25 52 .i64 Try.underlying25 hi031 Ao28 x5_1.length co28 x7_2 (of_decide_eq_true (by first | (with_reducible assumption) | assumption)) q31 hroom31; have hr31 := Kd.C_take (m := (x7_2 : Int).toNat) hC31 (by omega); have hy31 : y285.length = (x7_2 : Int).toNat := (by rw [Ny285.out, List.length_take]; omega); rw [← Ny285.out] at hr31; rw [← hy31] at hcut31; have HR288 := Aside0.mk hr31; have HC288 := Aside0.mk (show y285.length ≤ co28 from by omega); clear hr31 hC31 hroom31 hi031 hsz31; have KY31 := Aside0.mk hy31; clear hy31; have KL31 := Aside0.mk (show (x7_2 : Int).toNat ≤ x5_1.length from by omega); replace q31 := eq_true q31) | ((with_reducible refine gate_builtin (b := .append) (xs := #[.tmp 51, .tmp 54]) rfl ?_); at_builtin; refine Kd.R_append_rows k52 (w0 := w) w.heap.size rfl (.tmp 51) (.tmp 54) 25 52 (.agg #[(.string ⟨#[]⟩), (.int .i64 0), (.int .i64 0), (.int .i64 0), (.string ⟨#[]⟩)]) 56 rfl Try.underlying25 info52 rfl (by decide) (by omega) v283 y282 y285 _ _ _ (fun k_ => some k_ ≠ (.slice Ao28 x5_1.length co28 : Value).ownBlock) (fun _ => False) rfl rfl ?aO ?aR (fun _ _ h => h) (fun _ h => h.elim) ?aF ?aB ?aS ?aL ?_; (case aR => repeat (first | exact (by repeat (first | (with_reducible exact HR288.out) | (with_reducible refine Kd.C_alloc ?_ _) | (with_reducible refine Kd.C_drewN ?_ _) | (with_reducible refine Kd.C_drew ?_) | exact HR288.out)) | (with_reducible refine Kd.C_alloc ?_ _) | (with_reducible refine Kd.C_drewN ?_ _) | (with_reducible refine Kd.C_drew ?_))); (case aB => exact (hS HB.out)); (case aF => exact (fun k_ hk => Kd.fresh' (Kd.R_lt (rS HO_5.out)) k_ hk)); (case aO => exact (by (with_reducible repeat (first | apply Kd.R_alloc | apply Kd.R_drewN | apply Kd.R_drew)); exact Kd.R_mono HO284.out (fun _ hk => hk.2))); (case aS => exact (below_size (hS HB.out))); (case aL => have := LMc23.out; omega); intro v290 w32 ho hb hg hat; rw [← Ny289.out] at ho; replace BK274 := Aside0.mk (blk_grown (bS BK274.out) hg (Kd.R_ne HO284.out BK274.out (by decide))); replace HB := Aside0.mk (hb); replace HR288 := Aside0.mk ((show Kd.C k52 w32 Ao28 y285.length y285 from by rw [Ny285.out]; exact Kd.C_take (m := (x7_2 : Int).toNat) ((Kd.R_reads' (Kd.R_after (ok := (fun _ => True)) (rS HO_5.out) hg hat)).2.2) KL31.out)); replace HO_5 := Aside0.mk (Kd.R_after (ok := (fun _ => True)) (rS HO_5.out) hg hat); have HO291 := Aside0.mk (ho); clear HO284; clear ho hb hg hat; have hcz33_0 : w32.cell? ⟨gb274, 0, none⟩ = some (.string a1_0) := (blk_cell BK274.out 0).trans rfl; have hcz33_1 : w32.cell? ⟨gb274, 1, none⟩ = some (.bool true) := (blk_cell BK274.out 1).trans rfl; have hcz33_2 : w32.cell? ⟨gb274, 2, none⟩ = some (.int .i64 a1_2) := (blk_cell BK274.out 2).trans rfl; have hcz33_3 : w32.cell? ⟨gb274, 3, none⟩ = some (.int .i64 a1_3) := (blk_cell BK274.out 3).trans rfl; have hcz33_4 : w32.cell? ⟨gb274, 4, none⟩ = some (.int .i64 a1_4) := (blk_cell BK274.out 4).trans rfl; have hcz33_5 : w32.cell? ⟨gb274, 5, none⟩ = some (.string a1_5) := (blk_cell BK274.out 5).trans rfl; have hfz33_0 := blk_frozen BK274.out 0; have hfz33_1 := blk_frozen BK274.out 1; have hfz33_2 := blk_frozen BK274.out 2; have hfz33_3 := blk_frozen BK274.out 3; have hfz33_4 := blk_frozen BK274.out 4; have hfz33_5 := blk_frozen BK274.out 5) | ((with_reducible refine gate_builtin (b := .append) (xs := #[.tmp 56, .tmp 62]) rfl ?_); at_builtin; refine Kd.R_append k52 (w0 := w) w.heap.size rfl (.tmp 56) (.tmp 62) 25 52 (.agg #[(.string ⟨#[]⟩), (.int .i64 0), (.int .i64 0), (.int .i64 0), (.string ⟨#[]⟩)]) 56 rfl Try.underlying25 info52 rfl (by decide) (by omega) v290 y289 (⟨a1_0, (⟨a1_2, a1_3, a1_4, a1_5⟩ : S31)⟩ : S52) [.string a1_0, .int .i64 a1_2, .int .i64 a1_3, .int .i64 a1_4, .string a1_5] (fun k_ => some k_ ≠ (.slice Ao28 x5_1.length co28 : Value).ownBlock) (fun _ => False) rfl rfl ?aP (fun _ hk => hk.elim) ?aF ?aO ?aB ?aS ?aL ?_; (case aP => exact k52_mkM _ _ _ (⟨a1_0, (⟨a1_2, a1_3, a1_4, a1_5⟩ : S31)⟩ : S52)); (case aB => exact (hS HB.out)); (case aF => exact (fun k_ hk => Kd.fresh' (Kd.R_lt (rS HO_5.out)) k_ hk)); (case aO => exact (rS HO291.out)); (case aS => exact (below_size (hS HB.out))); (case aL => have := LMc24.out; omega); intro v293 w34 ho hb hg hat; rw [← Ny292.out] at ho; replace BK274 := Aside0.mk (blk_grown (bS BK274.out) hg (Kd.R_ne HO291.out BK274.out (by decide))); replace HB := Aside0.mk (hb); replace HR288 := Aside0.mk ((show Kd.C k52 w34 Ao28 y285.length y285 from by rw [Ny285.out]; exact Kd.C_take (m := (x7_2 : Int).toNat) ((Kd.R_reads' (Kd.R_after (ok := (fun _ => True)) (rS HO_5.out) hg hat)).2.2) KL31.out)); replace HO_5 := Aside0.mk (Kd.R_after (ok := (fun _ => True)) (rS HO_5.out) hg hat); have HO294 := Aside0.mk (ho); clear HO291; clear ho hb hg hat; have q35 : (x7_2 : Int) ≤ ((x5_1.length : Int) : Int) := of_decide_eq_true (by first | (with_reducible assumption) | assumption); obtain ⟨i035, hi035, _, hsz35, _⟩ := info_parts info52; have hroom35 : x5_1.length ≤ co28 := (Kd.R_reads' HO_5.out).2.1; have hC35 : Kd.C k52 _ Ao28 x5_1.length x5_1 := (Kd.R_reads' HO_5.out).2.2; have q035 : (0 : Int) ≤ (x7_2 : Int) := of_decide_eq_true (by first | (with_reducible assumption) | assumption); have hcut35 := cut_from (P := Try.prog) 25 52 .i64 Try.underlying25 hi035 5 hsz35 Ao28 x5_1.length co28 x7_2 q035 q35; have hr35 := Kd.C_drop (m := (x7_2 : Int).toNat) (c := co28) hC35 (by omega) hroom35; obtain ⟨A35, hA35⟩ : ∃ A1, A1 = (if co28 = (x7_2 : Int).toNat then Ao28 else (Ao28 : Option Addr).map (·.add ((x7_2 : Int).toNat * 5))) := ⟨_, rfl⟩; obtain ⟨c35, hc35⟩ : ∃ c1, c1 = co28 - (x7_2 : Int).toNat := ⟨_, rfl⟩; have hy35 : y295.length = x5_1.length - (x7_2 : Int).toNat := (by rw [Ny295.out, List.length_drop] <;> omega); rw [show (x5_1).drop (x7_2 : Int).toNat = y295 from Ny295.out.symm] at hr35; replace hr35 : Kd.C k52 _ A35 y295.length y295 := (by rw [hA35]; exact hr35); rw [← hy35, ← hA35, ← hc35] at hcut35; have HR298 := Aside0.mk hr35; have HC298 := Aside0.mk (show y295.length ≤ c35 from by rw [hy35, hc35]; exact Nat.sub_le_sub_right hroom35 _); clear hr35 hC35 hroom35 hi035 hsz35 hc35; have KY35 := Aside0.mk hy35; have KA35 := Aside0.mk hA35; clear hy35 hA35; have KL35 := Aside0.mk (show (x7_2 : Int).toNat ≤ x5_1.length from by omega); replace q35 := eq_true q35) | ((with_reducible refine gate_builtin (b := .append) (xs := #[.tmp 64, .tmp 67]) rfl ?_); at_builtin; refine Kd.R_append_rows k52 (w0 := w) w.heap.size rfl (.tmp 64) (.tmp 67) 25 52 (.agg #[(.string ⟨#[]⟩), (.int .i64 0), (.int .i64 0), (.int .i64 0), (.string ⟨#[]⟩)]) 56 rfl Try.underlying25 info52 rfl (by decide) (by omega) v293 y292 y295 _ _ _ (fun k_ => some k_ ≠ (.slice Ao28 x5_1.length co28 : Value).ownBlock) (fun _ => False) rfl rfl ?aO ?aR (fun _ _ h => h) (fun _ h => h.elim) ?aF ?aB ?aS ?aL ?_; (case aR => repeat (first | exact (by repeat (first | (with_reducible exact HR298.out) | (with_reducible refine Kd.C_alloc ?_ _) | (with_reducible refine Kd.C_drewN ?_ _) | (with_reducible refine Kd.C_drew ?_) | exact HR298.out)) | (with_reducible refine Kd.C_alloc ?_ _) | (with_reducible refine Kd.C_drewN ?_ _) | (with_reducible refine Kd.C_drew ?_))); (case aB => exact (hS HB.out)); (case aF => exact (fun k_ hk => Kd.fresh' (Kd.R_lt (rS HO_5.out)) k_ hk)); (case aO => exact (rS HO294.out)); (case aS => exact (below_size (hS HB.out))); (case aL => have := LMc27.out; omega); intro v300 w36 ho hb hg hat; rw [← Ny299.out] at ho; replace BK274 := Aside0.mk (blk_grown (bS BK274.out) hg (Kd.R_ne HO294.out BK274.out (by decide))); replace HB := Aside0.mk (hb); replace HR288 := Aside0.mk ((show Kd.C k52 w36 Ao28 y285.length y285 from by rw [Ny285.out]; exact Kd.C_take (m := (x7_2 : Int).toNat) ((Kd.R_reads' (Kd.R_after (ok := (fun _ => True)) (rS HO_5.out) hg hat)).2.2) KL31.out)); replace HR298 := Aside0.mk ((show Kd.C k52 w36 A35 y295.length y295 from by rw [Ny295.out, KA35.out]; exact Kd.C_drop (m := (x7_2 : Int).toNat) (c := co28) ((Kd.R_reads' (Kd.R_after (ok := (fun _ => True)) (rS HO_5.out) hg hat)).2.2) KL35.out ((Kd.R_reads' (Kd.R_after (ok := (fun _ => True)) (rS HO_5.out) hg hat)).2.1))); replace HO_5 := Aside0.mk (Kd.R_after (ok := (fun _ => True)) (rS HO_5.out) hg hat); have HO301 := Aside0.mk (ho); clear HO294; clear ho hb hg hat)); try go_wp2_with (first | ((with_reducible refine gate_dst (N := 51) rfl ?_); refine Kd.R_lit k52 _ 52 ?hg (N := 51) ?hd (xs := ([] : List (S52))) (inner := []) (ok := fun _ => True) (okp := fun _ => True) ?hr ?hp (fun _ hk => hk) trivial (Below.refl _ _) (Nat.le_refl _) (by simp) ?_; (case hd => rfl); (case hg => rfl); (case hr => first | (go_simp; done) | (go_simp; rfl)); (case hp => exact (Reps.none _ _)); intro v283 w29 ho30 hb hg_ hnew_; clear hg_ hnew_; (first | rw [← Ny282.out] at ho30 | (simp only [Int.reduceToNat] at ho30; rw [← Ny282.out] at ho30)); have HO284 := Aside0.mk (Kd.R_lower (Kd.R_new' ho30 (Kd.R_lt (rS HO_5.out))) (below_size (hS HB.out))); replace HO_5 := Aside0.mk (Kd.R_elder' (rS HO_5.out) (Kd.R_base ho30) hb); replace BK274 := Aside0.mk (blk_below (bS BK274.out) hb); replace HB := Aside0.mk (below_step (hS HB.out) hb); clear hb ho30; have q31 : (x7_2 : Int) ≤ ((x5_1.length : Int) : Int) := of_decide_eq_true (by first | (with_reducible assumption) | assumption); obtain ⟨i031, hi031, _, hsz31, _⟩ := info_parts info52; have hroom31 : x5_1.length ≤ co28 := (Kd.R_reads' HO_5.out).2.1; have hC31 : Kd.C k52 _ Ao28 x5_1.length x5_1 := (Kd.R_reads' HO_5.out).2.2; have hcut31 := cut_to (P := Try.prog) 25 52 .i64 Try.underlying25 hi031 Ao28 x5_1.length co28 x7_2 (of_decide_eq_true (by first | (with_reducible assumption) | assumption)) q31 hroom31; have hr31 := Kd.C_take (m := (x7_2 : Int).toNat) hC31 (by omega); have hy31 : y285.length = (x7_2 : Int).toNat := (by rw [Ny285.out, List.length_take]; omega); rw [← Ny285.out] at hr31; rw [← hy31] at hcut31; have HR288 := Aside0.mk hr31; have HC288 := Aside0.mk (show y285.length ≤ co28 from by omega); clear hr31 hC31 hroom31 hi031 hsz31; have KY31 := Aside0.mk hy31; clear hy31; have KL31 := Aside0.mk (show (x7_2 : Int).toNat ≤ x5_1.length from by omega); replace q31 := eq_true q31) | ((with_reducible refine gate_builtin (b := .append) (xs := #[.tmp 51, .tmp 54]) rfl ?_); at_builtin; refine Kd.R_append_rows k52 (w0 := w) w.heap.size rfl (.tmp 51) (.tmp 54) 25 52 (.agg #[(.string ⟨#[]⟩), (.int .i64 0), (.int .i64 0), (.int .i64 0), (.string ⟨#[]⟩)]) 56 rfl Try.underlying25 info52 rfl (by decide) (by omega) v283 y282 y285 _ _ _ (fun k_ => some k_ ≠ (.slice Ao28 x5_1.length co28 : Value).ownBlock) (fun _ => False) rfl rfl ?aO ?aR (fun _ _ h => h) (fun _ h => h.elim) ?aF ?aB ?aS ?aL ?_; (case aR => repeat (first | exact (by repeat (first | (with_reducible exact HR288.out) | (with_reducible refine Kd.C_alloc ?_ _) | (with_reducible refine Kd.C_drewN ?_ _) | (with_reducible refine Kd.C_drew ?_) | exact HR288.out)) | (with_reducible refine Kd.C_alloc ?_ _) | (with_reducible refine Kd.C_drewN ?_ _) | (with_reducible refine Kd.C_drew ?_))); (case aB => exact (hS HB.out)); (case aF => exact (fun k_ hk => Kd.fresh' (Kd.R_lt (rS HO_5.out)) k_ hk)); (case aO => exact (by (with_reducible repeat (first | apply Kd.R_alloc | apply Kd.R_drewN | apply Kd.R_drew)); exact Kd.R_mono HO284.out (fun _ hk => hk.2))); (case aS => exact (below_size (hS HB.out))); (case aL => have := LMc23.out; omega); intro v290 w32 ho hb hg hat; rw [← Ny289.out] at ho; replace BK274 := Aside0.mk (blk_grown (bS BK274.out) hg (Kd.R_ne HO284.out BK274.out (by decide))); replace HB := Aside0.mk (hb); replace HR288 := Aside0.mk ((show Kd.C k52 w32 Ao28 y285.length y285 from by rw [Ny285.out]; exact Kd.C_take (m := (x7_2 : Int).toNat) ((Kd.R_reads' (Kd.R_after (ok := (fun _ => True)) (rS HO_5.out) hg hat)).2.2) KL31.out)); replace HO_5 := Aside0.mk (Kd.R_after (ok := (fun _ => True)) (rS HO_5.out) hg hat); have HO291 := Aside0.mk (ho); clear HO284; clear ho hb hg hat; have hcz33_0 : w32.cell? ⟨gb274, 0, none⟩ = some (.string a1_0) := (blk_cell BK274.out 0).trans rfl; have hcz33_1 : w32.cell? ⟨gb274, 1, none⟩ = some (.bool true) := (blk_cell BK274.out 1).trans rfl; have hcz33_2 : w32.cell? ⟨gb274, 2, none⟩ = some (.int .i64 a1_2) := (blk_cell BK274.out 2).trans rfl; have hcz33_3 : w32.cell? ⟨gb274, 3, none⟩ = some (.int .i64 a1_3) := (blk_cell BK274.out 3).trans rfl; have hcz33_4 : w32.cell? ⟨gb274, 4, none⟩ = some (.int .i64 a1_4) := (blk_cell BK274.out 4).trans rfl; have hcz33_5 : w32.cell? ⟨gb274, 5, none⟩ = some (.string a1_5) := (blk_cell BK274.out 5).trans rfl; have hfz33_0 := blk_frozen BK274.out 0; have hfz33_1 := blk_frozen BK274.out 1; have hfz33_2 := blk_frozen BK274.out 2; have hfz33_3 := blk_frozen BK274.out 3; have hfz33_4 := blk_frozen BK274.out 4; have hfz33_5 := blk_frozen BK274.out 5) | ((with_reducible refine gate_builtin (b := .append) (xs := #[.tmp 56, .tmp 62]) rfl ?_); at_builtin; refine Kd.R_append k52 (w0 := w) w.heap.size rfl (.tmp 56) (.tmp 62) 25 52 (.agg #[(.string ⟨#[]⟩), (.int .i64 0), (.int .i64 0), (.int .i64 0), (.string ⟨#[]⟩)]) 56 rfl Try.underlying25 info52 rfl (by decide) (by omega) v290 y289 (⟨a1_0, (⟨a1_2, a1_3, a1_4, a1_5⟩ : S31)⟩ : S52) [.string a1_0, .int .i64 a1_2, .int .i64 a1_3, .int .i64 a1_4, .string a1_5] (fun k_ => some k_ ≠ (.slice Ao28 x5_1.length co28 : Value).ownBlock) (fun _ => False) rfl rfl ?aP (fun _ hk => hk.elim) ?aF ?aO ?aB ?aS ?aL ?_; (case aP => exact k52_mkM _ _ _ (⟨a1_0, (⟨a1_2, a1_3, a1_4, a1_5⟩ : S31)⟩ : S52)); (case aB => exact (hS HB.out)); (case aF => exact (fun k_ hk => Kd.fresh' (Kd.R_lt (rS HO_5.out)) k_ hk)); (case aO => exact (rS HO291.out)); (case aS => exact (below_size (hS HB.out))); (case aL => have := LMc24.out; omega); intro v293 w34 ho hb hg hat; rw [← Ny292.out] at ho; replace BK274 := Aside0.mk (blk_grown (bS BK274.out) hg (Kd.R_ne HO291.out BK274.out (by decide))); replace HB := Aside0.mk (hb); replace HR288 := Aside0.mk ((show Kd.C k52 w34 Ao28 y285.length y285 from by rw [Ny285.out]; exact Kd.C_take (m := (x7_2 : Int).toNat) ((Kd.R_reads' (Kd.R_after (ok := (fun _ => True)) (rS HO_5.out) hg hat)).2.2) KL31.out)); replace HO_5 := Aside0.mk (Kd.R_after (ok := (fun _ => True)) (rS HO_5.out) hg hat); have HO294 := Aside0.mk (ho); clear HO291; clear ho hb hg hat; have q35 : (x7_2 : Int) ≤ ((x5_1.length : Int) : Int) := of_decide_eq_true (by first | (with_reducible assumption) | assumption); obtain ⟨i035, hi035, _, hsz35, _⟩ := info_parts info52; have hroom35 : x5_1.length ≤ co28 := (Kd.R_reads' HO_5.out).2.1; have hC35 : Kd.C k52 _ Ao28 x5_1.length x5_1 := (Kd.R_reads' HO_5.out).2.2; have q035 : (0 : Int) ≤ (x7_2 : Int) := of_decide_eq_true (by first | (with_reducible assumption) | assumption); have hcut35 := cut_from (P := Try.prog) 25 52 .i64 Try.underlying25 hi035 5 hsz35 Ao28 x5_1.length co28 x7_2 q035 q35; have hr35 := Kd.C_drop (m := (x7_2 : Int).toNat) (c := co28) hC35 (by omega) hroom35; obtain ⟨A35, hA35⟩ : ∃ A1, A1 = (if co28 = (x7_2 : Int).toNat then Ao28 else (Ao28 : Option Addr).map (·.add ((x7_2 : Int).toNat * 5))) := ⟨_, rfl⟩; obtain ⟨c35, hc35⟩ : ∃ c1, c1 = co28 - (x7_2 : Int).toNat := ⟨_, rfl⟩; have hy35 : y295.length = x5_1.length - (x7_2 : Int).toNat := (by rw [Ny295.out, List.length_drop] <;> omega); rw [show (x5_1).drop (x7_2 : Int).toNat = y295 from Ny295.out.symm] at hr35; replace hr35 : Kd.C k52 _ A35 y295.length y295 := (by rw [hA35]; exact hr35); rw [← hy35, ← hA35, ← hc35] at hcut35; have HR298 := Aside0.mk hr35; have HC298 := Aside0.mk (show y295.length ≤ c35 from by rw [hy35, hc35]; exact Nat.sub_le_sub_right hroom35 _); clear hr35 hC35 hroom35 hi035 hsz35 hc35; have KY35 := Aside0.mk hy35; have KA35 := Aside0.mk hA35; clear hy35 hA35; have KL35 := Aside0.mk (show (x7_2 : Int).toNat ≤ x5_1.length from by omega); replace q35 := eq_true q35) | ((with_reducible refine gate_builtin (b := .append) (xs := #[.tmp 64, .tmp 67]) rfl ?_); at_builtin; refine Kd.R_append_rows k52 (w0 := w) w.heap.size rfl (.tmp 64) (.tmp 67) 25 52 (.agg #[(.string ⟨#[]⟩), (.int .i64 0), (.int .i64 0), (.int .i64 0), (.string ⟨#[]⟩)]) 56 rfl Try.underlying25 info52 rfl (by decide) (by omega) v293 y292 y295 _ _ _ (fun k_ => some k_ ≠ (.slice Ao28 x5_1.length co28 : Value).ownBlock) (fun _ => False) rfl rfl ?aO ?aR (fun _ _ h => h) (fun _ h => h.elim) ?aF ?aB ?aS ?aL ?_; (case aR => repeat (first | exact (by repeat (first | (with_reducible exact HR298.out) | (with_reducible refine Kd.C_alloc ?_ _) | (with_reducible refine Kd.C_drewN ?_ _) | (with_reducible refine Kd.C_drew ?_) | exact HR298.out)) | (with_reducible refine Kd.C_alloc ?_ _) | (with_reducible refine Kd.C_drewN ?_ _) | (with_reducible refine Kd.C_drew ?_))); (case aB => exact (hS HB.out)); (case aF => exact (fun k_ hk => Kd.fresh' (Kd.R_lt (rS HO_5.out)) k_ hk)); (case aO => exact (rS HO294.out)); (case aS => exact (below_size (hS HB.out))); (case aL => have := LMc27.out; omega); intro v300 w36 ho hb hg hat; rw [← Ny299.out] at ho; replace BK274 := Aside0.mk (blk_grown (bS BK274.out) hg (Kd.R_ne HO294.out BK274.out (by decide))); replace HB := Aside0.mk (hb); replace HR288 := Aside0.mk ((show Kd.C k52 w36 Ao28 y285.length y285 from by rw [Ny285.out]; exact Kd.C_take (m := (x7_2 : Int).toNat) ((Kd.R_reads' (Kd.R_after (ok := (fun _ => True)) (rS HO_5.out) hg hat)).2.2) KL31.out)); replace HR298 := Aside0.mk ((show Kd.C k52 w36 A35 y295.length y295 from by rw [Ny295.out, KA35.out]; exact Kd.C_drop (m := (x7_2 : Int).toNat) (c := co28) ((Kd.R_reads' (Kd.R_after (ok := (fun _ => True)) (rS HO_5.out) hg hat)).2.2) KL35.out ((Kd.R_reads' (Kd.R_after (ok := (fun _ => True)) (rS HO_5.out) hg hat)).2.1))); replace HO_5 := Aside0.mk (Kd.R_after (ok := (fun _ => True)) (rS HO_5.out) hg hat); have HO301 := Aside0.mk (ho); clear HO294; clear ho hb hg hat)))
                          go_ret
                          exact ⟨_, by first | rfl | (simp [errW_none, errW_some] <;> rfl) | (simp [*, errW_none, errW_some] <;> rfl), by (with_reducible repeat (first | apply Kd.R_alloc | apply Kd.R_drewN | apply Kd.R_drew)); exact Kd.R_mono HO301.out (fun _ hk => trivial), by repeat (first | (with_reducible first | exact HB.out | apply below_alloc | apply pw_below_drewN | apply below_drew1 | refine below_set ?_ GE274.out) | exact HB.out)⟩
                        · rw [if_neg c27] at H
                          exact absurd H (by simp)
                      · rw [if_neg c24] at H
                        exact absurd H (by simp)
                    · rw [if_neg c23] at H
                      exact absurd H (by simp)
                  · rw [if_neg c22] at H
                    exact absurd H (by simp)
                · rw [if_neg c21] at H
                  exact absurd H (by simp)
        · replace c11 := Bool.eq_false_iff.mpr c11
          subst c11
          have H1 : (some x5_1) = some r := by rw [if_neg (show ¬ (false = true) by decide)] at H; exact H
          clear H
          have H := H1
          clear H1
          obtain rfl := Option.some.inj H
          have hcz37_0 : wr.cell? ⟨gb274, 0, none⟩ = some (.string a1_0) := (blk_cell BK274.out 0).trans rfl
          have hcz37_1 : wr.cell? ⟨gb274, 1, none⟩ = some (.bool false) := (blk_cell BK274.out 1).trans rfl
          have hcz37_2 : wr.cell? ⟨gb274, 2, none⟩ = some (.int .i64 a1_2) := (blk_cell BK274.out 2).trans rfl
          have hcz37_3 : wr.cell? ⟨gb274, 3, none⟩ = some (.int .i64 a1_3) := (blk_cell BK274.out 3).trans rfl
          have hcz37_4 : wr.cell? ⟨gb274, 4, none⟩ = some (.int .i64 a1_4) := (blk_cell BK274.out 4).trans rfl
          have hcz37_5 : wr.cell? ⟨gb274, 5, none⟩ = some (.string a1_5) := (blk_cell BK274.out 5).trans rfl
          have hfz37_0 := blk_frozen BK274.out 0
          have hfz37_1 := blk_frozen BK274.out 1
          have hfz37_2 := blk_frozen BK274.out 2
          have hfz37_3 := blk_frozen BK274.out 3
          have hfz37_4 := blk_frozen BK274.out 4
          have hfz37_5 := blk_frozen BK274.out 5
          go_wp2
          repeat (go_quiet (fail); try go_wp2)
          go_ret
          exact ⟨_, by first | rfl | (simp [errW_none, errW_some] <;> rfl) | (simp [*, errW_none, errW_some] <;> rfl), by (with_reducible repeat (first | apply Kd.R_alloc | apply Kd.R_drewN | apply Kd.R_drew)); exact HO_5.out, by repeat (first | (with_reducible first | exact HB.out | apply below_alloc | apply pw_below_drewN | apply below_drew1 | refine below_set ?_ GE274.out) | exact HB.out)⟩

/-! ### rollcallref17_Over: function 24 -/
def rollcallref17_Over.l0 : Nat → List (S52) → Int → List (S33) → Bool → Option ((List (S52)))
  | 0, _, _, _, _ => none
  | k + 1, x0, x5, x303000, x303001 => if x5 < (x303000.length : Int) then (if 0 ≤ x5 then ((rollcallref05_Set.f k x0 ((rd_T33 x303000 x5).f0) ((rd_T33 x303000 x5).f1) ((rd_T33 x303000 x5).f2.f0) ((rd_T33 x303000 x5).f2.f1) ((rd_T33 x303000 x5).f2.f2) ((rd_T33 x303000 x5).f2.f3)).bind fun t304 => (rollcallref17_Over.l0 k t304 (wrap64 (x5 + 1)) x303000 x303001)) else (none)) else (some x0)
def rollcallref17_Over.f (k : Nat) (l0 : List (S52)) (l1_0 : List (S33)) (a1_1 : Bool) : Option ((List (S52))) := rollcallref17_Over.l0 k l0 0 l1_0 a1_1
theorem rollcallref17_Over.mono_l : ∀ k, (∀ y0 y1 y2 y3, LeO (rollcallref17_Over.l0 k y0 y1 y2 y3) (rollcallref17_Over.l0 (k + 1) y0 y1 y2 y3))
  | 0 => fun _ _ _ _ r h => by simp [rollcallref17_Over.l0] at h
  | k + 1 => by
    have ih0 := rollcallref17_Over.mono_l k
    · intro y0 y1 y2 y3
      unfold rollcallref17_Over.l0
      repeat' first
      | (with_reducible exact ih0 _ _ _ _)
      | (with_reducible exact rollcallref05_Set.mono _ _ _ _ _ _ _ _)
      | (with_reducible exact LeO.refl _)
      | (with_reducible exact LeO.none _)
      | (with_reducible refine LeO.ite ?_ ?_)
      | (with_reducible refine LeO.bind ?_ (fun _ => ?_))
      | exact ih0 _ _ _ _
      | exact rollcallref05_Set.mono _ _ _ _ _ _ _ _
      | exact LeO.none _
      | refine LeO.ite ?_ ?_
      | refine LeO.bind ?_ (fun _ => ?_)
theorem rollcallref17_Over.mono : ∀ a0 a1 a2 k, LeO (rollcallref17_Over.f k a0 a1 a2) (rollcallref17_Over.f (k + 1) a0 a1 a2) := by
  intro a0 a1 a2 k
  have ih0 := rollcallref17_Over.mono_l k
  unfold rollcallref17_Over.f
  repeat' first
      | (with_reducible exact ih0 _ _ _ _)
      | (with_reducible exact rollcallref05_Set.mono _ _ _ _ _ _ _ _)
      | (with_reducible exact LeO.refl _)
      | (with_reducible exact LeO.none _)
      | (with_reducible refine LeO.ite ?_ ?_)
      | (with_reducible refine LeO.bind ?_ (fun _ => ?_))
      | exact ih0 _ _ _ _
      | exact rollcallref05_Set.mono _ _ _ _ _ _ _ _
      | exact LeO.none _
      | refine LeO.ite ?_ ?_
      | refine LeO.bind ?_ (fun _ => ?_)
set_option maxHeartbeats 8000000 in
set_option maxRecDepth 100000 in
theorem rollcallref17_Over.calls (k : Nat) (P0_ : Nat → Prop) (A0 : Option Addr) (c0 : Nat) (l0 : List (S52)) (A1_0 : Option Addr) (c1_0 : Nat) (l1_0 : List (S33)) (a1_1 : Bool) (r : List (S52)) (w : World) (hs0 : Kd.V k52 52 w w.heap.size (fun k_ => P0_ k_) (.slice A0 l0.length c0) l0) (hr1_0 : Kd.C k33 w A1_0 l1_0.length l1_0) (hc1_0 : l1_0.length ≤ c1_0) (h : rollcallref17_Over.f k l0 l1_0 a1_1 = some r) :
    Calls Try.prog 24 #[.slice A0 l0.length c0, .agg #[.slice A1_0 l1_0.length c1_0, .bool a1_1]] w fun e w' => ∃ v0_ : Value, e = .returned (v0_) ∧ Kd.V k52 52 w' w.heap.size (fun k_ => (P0_ k_ ∨ w.heap.size ≤ k_)) v0_ r ∧ Below w.heap.size w w' := by
  have hu24 := Try.underlying24
  have hu33 := Try.underlying33
  have HO0 := Aside0.mk (show Kd.V k52 52 w w.heap.size (fun k_ => (P0_ k_ ∨ w.heap.size ≤ k_)) (.slice A0 l0.length c0) l0 from Kd.V_mono hs0 (fun k_ hk => .inl hk))
  have HR1_0 := Aside0.mk hr1_0
  have HC1_0 := Aside0.mk hc1_0
  clear hr1_0 hc1_0
  have HB := Aside0.mk (Below.refl w.heap.size w)
  have H : (rollcallref17_Over.l0 k l0 0 l1_0 a1_1) = some r := h
  clear h
  have H' := Aside0.mk H
  clear H
  go_enter Try.func24, Try.ntmps24
  go_wp2_with (first | ((with_reducible refine gate_dst (N := 3) rfl ?_); refine box_event ?hg (N := 3) ?hd (cs := #[.slice A1_0 l1_0.length c1_0, .bool a1_1]) (t := 24) ?hr ?_; (case hd => rfl); (case hg => rfl); (case hr => first | (go_simp; done) | (go_simp; rfl)); intro gb302 hg w3 hbox hb; replace HO0 := Aside0.mk (Kd.V_below (Kd.V_elderB (vS HO0.out) gb302 (Nat.le_of_eq hg.symm)) hb); have BK302 := Aside0.mk (hbox); have GW302 := Aside0.mk ((by rw [hg]; exact (below_size (hS HB.out)) : w.heap.size ≤ gb302)); have GE302 := Aside0.mk ((by rw [hg]; exact (below_size (hS HB.out)) : w.heap.size ≤ gb302)); replace HB := Aside0.mk (below_step (hS HB.out) hb); clear hb hbox hg))
  go_loopg [0, 5] k (fun kq v0 v5 w' => ∃ (x0_1 : List (S52)) (x5_1 : Int), v5 = .int .i64 x5_1 ∧ Aside0 (rollcallref17_Over.l0 kq x0_1 x5_1 l1_0 a1_1 = some r) ∧ Aside0 (kq ≤ k) ∧ Aside0 (Kd.V k52 52 w' w.heap.size (fun k_ => (P0_ k_ ∨ w.heap.size ≤ k_) ∧ k_ ≠ gb302) v0 x0_1) ∧ Aside0 (w'.heap[gb302]? = some (.cells #[(.slice A1_0 l1_0.length c1_0), .bool a1_1] 24 (0, 0))) ∧ Aside0 (Below w.heap.size w w'))
  case atStart => exact ⟨(l0), (0), (by first | rfl | (simp; done) | (simp [*]; done)), H', ⟨Nat.le_refl _⟩, ⟨vS HO0.out⟩, ⟨bS BK302.out⟩, ⟨by repeat (first | (with_reducible first | exact HB.out | apply below_alloc | apply pw_below_drewN | apply below_drew1 | refine below_set ?_ GE302.out) | exact HB.out)⟩⟩
  case round =>
    clear H'
    try clear c1
    try clear c2
    try clear p2
    obtain ⟨x0_1, x5_1, rfl, HA, HK1, HO_0, BK302, HB⟩ := hrel
    cases gk with
    | zero => exact absurd HA.out (by simp [rollcallref17_Over.l0])
    | succ k1 =>
      have H := HA.out
      clear HA
      simp only [rollcallref17_Over.l0] at H
      by_cases c4 : x5_1 < (l1_0.length : Int)
      · rw [if_pos c4] at H
        have c4b0 : decide (x5_1 < (l1_0.length : Int)) = true := decide_eq_true c4
        clear c4
        by_cases c5 : 0 ≤ x5_1
        · rw [if_pos c5] at H
          have c5b0 : decide (0 ≤ x5_1) = true := decide_eq_true c5
          clear c5
          replace H := Option.bind_eq_some_iff.mp H
          obtain ⟨t304, A60, H⟩ := H
          replace H : (rollcallref17_Over.l0 k1 t304 (wrap64 (x5_1 + 1)) l1_0 a1_1) = some r := H
          have A6 := Aside0.mk A60
          clear A60
          have H' := Aside0.mk H
          clear H
          have hcz7_0 : wr.cell? ⟨gb302, 0, none⟩ = some (.slice A1_0 l1_0.length c1_0) := (blk_cell BK302.out 0).trans rfl
          have hcz7_1 : wr.cell? ⟨gb302, 1, none⟩ = some (.bool a1_1) := (blk_cell BK302.out 1).trans rfl
          have hfz7_0 := blk_frozen BK302.out 0
          have hfz7_1 := blk_frozen BK302.out 1
          have p303 : 0 ≤ (x5_1 : Int) := of_decide_eq_true (by first | (with_reducible assumption) | assumption)
          have q303 : x5_1 < (l1_0.length : Int) := of_decide_eq_true (by first | (with_reducible assumption) | assumption)
          obtain ⟨ad303, e303, hx303_0, hx303_1, hx303_2, hx303_3, hx303_4, hx303_5⟩ := at_T33 HR1_0.out x5_1 p303 q303
          cases e303
          replace hx303_0 := (HB.out.cell (World.block_lt_of_cell? w _ hx303_0)).trans hx303_0
          replace hx303_1 := (HB.out.cell (World.block_lt_of_cell? w _ hx303_1)).trans hx303_1
          replace hx303_2 := (HB.out.cell (World.block_lt_of_cell? w _ hx303_2)).trans hx303_2
          replace hx303_3 := (HB.out.cell (World.block_lt_of_cell? w _ hx303_3)).trans hx303_3
          replace hx303_4 := (HB.out.cell (World.block_lt_of_cell? w _ hx303_4)).trans hx303_4
          replace hx303_5 := (HB.out.cell (World.block_lt_of_cell? w _ hx303_5)).trans hx303_5
          replace p303 := eq_true p303
          replace q303 := eq_true q303
          obtain ⟨Ao8, co8, eo8⟩ := Kd.V_slice HO_0.out
          subst eo8
          go_wp2_with (first | ((with_reducible refine gate_callee (f := 38) rfl ?_); refine goesL_ (some 19) rfl rfl Try.func38 (by kernel_rfl) rfl #[.slice Ao8 x0_1.length co8, .agg #[.string ((rd_T33 l1_0 x5_1).f0), .bool ((rd_T33 l1_0 x5_1).f1), .int .i64 ((rd_T33 l1_0 x5_1).f2.f0), .int .i64 ((rd_T33 l1_0 x5_1).f2.f1), .int .i64 ((rd_T33 l1_0 x5_1).f2.f2), .string ((rd_T33 l1_0 x5_1).f2.f3)]] rfl (by (try simp only [List.map_toArray, List.map_cons, List.map_nil]); first | done | rfl | (simp only [List.length_drop, List.length_take]; rfl)) ?_; (with_reducible refine (rollcallref05_Set.calls k1 _ _ x0_1 ((rd_T33 l1_0 x5_1).f0) ((rd_T33 l1_0 x5_1).f1) ((rd_T33 l1_0 x5_1).f2.f0) ((rd_T33 l1_0 x5_1).f2.f1) ((rd_T33 l1_0 x5_1).f2.f2) ((rd_T33 l1_0 x5_1).f2.f3) t304 _ ?side1 ?side2 A6.out).mono ?_); (case side1 => repeat (first | exact (Kd.V_reads' HO_0.out).2.2 | (with_reducible refine Kd.C_alloc ?_ _) | (with_reducible refine Kd.C_drewN ?_ _) | (with_reducible refine Kd.C_drew ?_))); (case side2 => exact (Kd.V_reads' HO_0.out).2.1); rintro e w9 ⟨v305, rfl, ho0, hb⟩; refine ⟨_, rfl, ?_⟩; replace HO_0 := Aside0.mk (Kd.V_elder' (vS HO_0.out) (Kd.R_base ho0) hb); have HO306 := Aside0.mk (Kd.R_lower (Kd.R_newM (M := fun k_ => (w.heap.size ≤ k_)) ho0 (below_size (hS HB.out)) (fun k_ h_ => h_)) (below_size (hS HB.out))); replace BK302 := Aside0.mk (blk_below (bS BK302.out) hb); replace HB := Aside0.mk (below_step (hS HB.out) hb); (try clear hb); (try clear hb2); (try clear hk); (try clear hi); (try clear ho0)))
          go_roundg k1
          case measure => have := HK1.out; omega
          case rel => exact ⟨(t304), (wrap64 (x5_1 + 1)), (by first | rfl | (simp; done) | (simp [*]; done)), H', ⟨by have := HK1.out; omega⟩, ⟨Kd.V_mono (Kd.R_V (by (with_reducible repeat (first | apply Kd.R_alloc | apply Kd.R_drewN | apply Kd.R_drew)); exact (Kd.R_types HO306.out BK302.out (by decide)))) (fun k_ hk => by first | exact ⟨.inr hk.1.1, hk.2⟩ | exact ⟨(.inr (hk.1)), hk.2⟩ | exact (.inr (hk)))⟩, ⟨bS BK302.out⟩, ⟨by repeat (first | (with_reducible first | exact HB.out | apply below_alloc | apply pw_below_drewN | apply below_drew1 | refine below_set ?_ GE302.out) | exact HB.out)⟩⟩
        · rw [if_neg c5] at H
          exact absurd H (by simp)
      · rw [if_neg c4] at H
        have c4b0 : decide (x5_1 < (l1_0.length : Int)) = false := decide_eq_false c4
        clear c4
        obtain rfl := Option.some.inj H
        have hcz10_0 : wr.cell? ⟨gb302, 0, none⟩ = some (.slice A1_0 l1_0.length c1_0) := (blk_cell BK302.out 0).trans rfl
        have hcz10_1 : wr.cell? ⟨gb302, 1, none⟩ = some (.bool a1_1) := (blk_cell BK302.out 1).trans rfl
        have hfz10_0 := blk_frozen BK302.out 0
        have hfz10_1 := blk_frozen BK302.out 1
        go_wp2
        go_ret
        exact ⟨_, by first | rfl | (simp [errW_none, errW_some] <;> rfl) | (simp [*, errW_none, errW_some] <;> rfl), by (with_reducible repeat (first | apply Kd.V_alloc | apply Kd.V_drewN | apply Kd.V_drew)); exact Kd.V_mono HO_0.out (fun _ hk => hk.1), by repeat (first | (with_reducible first | exact HB.out | apply below_alloc | apply pw_below_drewN | apply below_drew1 | refine below_set ?_ GE302.out) | exact HB.out)⟩

/-! ### rollcallref17_Push: function 27 -/
def rollcallref17_Push.f (k : Nat) (l0_0 : List (S33)) (a0_1 : Bool) (a1_0 : ByteArray) (a1_1 : Bool) (a1_2 : Int) (a1_3 : Int) (a1_4 : Int) (a1_5 : ByteArray) (a2 : Int) : Option ((List (S33)) × Bool) := if a0_1 = true then (some (l0_0, a0_1)) else ((some (([] : List (S33)) : List (S33))).bind fun y310 => (if y310.length + l0_0.length < 2199023255552 then ((some (y310 ++ l0_0 : List (S33))).bind fun y313 => ((rollcallref17_place.f k l0_0 a0_1 a1_0).bind fun t316 => (if t316 ≥ 0 then (if 0 ≤ t316 then (if t316 < (y313.length : Int) then (some ((y313.set (t316 : Int).toNat (⟨a1_0, a1_1, (⟨a1_2, a1_3, a1_4, a1_5⟩ : S31)⟩ : S33)), false)) else (none)) else (none)) else (if (y313.length : Int) < a2 then (if y313.length < 2199023255552 then (some ((y313 ++ [(⟨a1_0, a1_1, (⟨a1_2, a1_3, a1_4, a1_5⟩ : S31)⟩ : S33)]), false)) else (none)) else (some (([] : List (S33)), true)))))) else (none)))
theorem rollcallref17_Push.mono : ∀ a0 a1 a2 a3 a4 a5 a6 a7 a8 k, LeO (rollcallref17_Push.f k a0 a1 a2 a3 a4 a5 a6 a7 a8) (rollcallref17_Push.f (k + 1) a0 a1 a2 a3 a4 a5 a6 a7 a8) := by
  intro a0 a1 a2 a3 a4 a5 a6 a7 a8 k
  unfold rollcallref17_Push.f
  repeat' first
      | (with_reducible exact rollcallref17_place.mono _ _ _ _)
      | (with_reducible exact LeO.refl _)
      | (with_reducible exact LeO.none _)
      | (with_reducible refine LeO.ite ?_ ?_)
      | (with_reducible refine LeO.bind ?_ (fun _ => ?_))
      | exact rollcallref17_place.mono _ _ _ _
      | exact LeO.none _
      | refine LeO.ite ?_ ?_
      | refine LeO.bind ?_ (fun _ => ?_)
set_option maxHeartbeats 8000000 in
set_option maxRecDepth 100000 in
theorem rollcallref17_Push.calls (k : Nat) (P0_0_ : Nat → Prop) (A0_0 : Option Addr) (c0_0 : Nat) (l0_0 : List (S33)) (a0_1 : Bool) (a1_0 : ByteArray) (a1_1 : Bool) (a1_2 : Int) (a1_3 : Int) (a1_4 : Int) (a1_5 : ByteArray) (a2 : Int) (r1 : List (S33)) (r2 : Bool) (w : World) (hs0_0 : Kd.V k33 33 w w.heap.size (fun k_ => P0_0_ k_) (.slice A0_0 l0_0.length c0_0) l0_0) (h : rollcallref17_Push.f k l0_0 a0_1 a1_0 a1_1 a1_2 a1_3 a1_4 a1_5 a2 = some (r1, r2)) :
    Calls Try.prog 27 #[.agg #[.slice A0_0 l0_0.length c0_0, .bool a0_1], .agg #[.string a1_0, .bool a1_1, .int .i64 a1_2, .int .i64 a1_3, .int .i64 a1_4, .string a1_5], .int .i64 a2] w fun e w' => ∃ v0_ : Value, e = .returned (.agg #[v0_, .bool r2]) ∧ Kd.V k33 33 w' w.heap.size (fun k_ => (P0_0_ k_ ∨ w.heap.size ≤ k_)) v0_ r1 ∧ Below w.heap.size w w' := by
  have hu24 := Try.underlying24
  have hu33 := Try.underlying33
  have HO0_0 := Aside0.mk (show Kd.V k33 33 w w.heap.size (fun k_ => (P0_0_ k_ ∨ w.heap.size ≤ k_)) (.slice A0_0 l0_0.length c0_0) l0_0 from Kd.V_mono hs0_0 (fun k_ hk => .inl hk))
  have HB := Aside0.mk (Below.refl w.heap.size w)
  have H : (if a0_1 = true then (some (l0_0, a0_1)) else ((some (([] : List (S33)) : List (S33))).bind fun y310 => (if y310.length + l0_0.length < 2199023255552 then ((some (y310 ++ l0_0 : List (S33))).bind fun y313 => ((rollcallref17_place.f k l0_0 a0_1 a1_0).bind fun t316 => (if t316 ≥ 0 then (if 0 ≤ t316 then (if t316 < (y313.length : Int) then (some ((y313.set (t316 : Int).toNat (⟨a1_0, a1_1, (⟨a1_2, a1_3, a1_4, a1_5⟩ : S31)⟩ : S33)), false)) else (none)) else (none)) else (if (y313.length : Int) < a2 then (if y313.length < 2199023255552 then (some ((y313 ++ [(⟨a1_0, a1_1, (⟨a1_2, a1_3, a1_4, a1_5⟩ : S31)⟩ : S33)]), false)) else (none)) else (some (([] : List (S33)), true)))))) else (none)))) = some (r1, r2) := h
  clear h
  by_cases c4 : a0_1 = true
  · subst c4
    have H1 : (some (l0_0, true)) = some (r1, r2) := by rw [if_pos rfl] at H; exact H
    clear H
    have H := H1
    clear H1
    simp only [Option.some.injEq, Prod.mk.injEq] at H
    obtain ⟨rfl, rfl⟩ := H
    go_enter Try.func27, Try.ntmps27
    go_wp2_with (first | ((with_reducible refine gate_dst (N := 3) rfl ?_); refine box_event ?hg (N := 3) ?hd (cs := #[.slice A0_0 l0_0.length c0_0, .bool true]) (t := 24) ?hr ?_; (case hd => rfl); (case hg => rfl); (case hr => first | (go_simp; done) | (go_simp; rfl)); intro gb307 hg w5 hbox hb; replace HO0_0 := Aside0.mk (Kd.V_below (Kd.V_elderB (vS HO0_0.out) gb307 (Nat.le_of_eq hg.symm)) hb); have BK307 := Aside0.mk (hbox); have GW307 := Aside0.mk ((by rw [hg]; exact (below_size (hS HB.out)) : w.heap.size ≤ gb307)); have GE307 := Aside0.mk ((by rw [hg]; exact (below_size (hS HB.out)) : w.heap.size ≤ gb307)); replace HB := Aside0.mk (below_step (hS HB.out) hb); clear hb hbox hg) | ((with_reducible refine gate_dst (N := 4) rfl ?_); refine box_event ?hg (N := 4) ?hd (cs := #[.string a1_0, .bool a1_1, .int .i64 a1_2, .int .i64 a1_3, .int .i64 a1_4, .string a1_5]) (t := 33) ?hr ?_; (case hd => rfl); (case hg => rfl); (case hr => first | (go_simp; done) | (go_simp; rfl)); intro gb308 hg w6 hbox hb; replace HO0_0 := Aside0.mk (Kd.V_below (Kd.V_elderB (vS HO0_0.out) gb308 (Nat.le_of_eq hg.symm)) hb); have BK308 := Aside0.mk (hbox); have GW308 := Aside0.mk ((by rw [hg]; exact (below_size (hS HB.out)) : w.heap.size ≤ gb308)); have GE308 := Aside0.mk ((by rw [hg]; exact (below_size (hS HB.out)) : w.heap.size ≤ gb308)); replace HB := Aside0.mk (below_step (hS HB.out) hb); have NB307_308 := Aside0.mk ((by rw [hg]; exact Nat.ne_of_lt (blk_lt (bS BK307.out)) : gb307 ≠ gb308)); have NB308_307 := Aside0.mk ((by rw [hg]; exact Nat.ne_of_gt (blk_lt (bS BK307.out)) : gb308 ≠ gb307)); replace BK307 := Aside0.mk (blk_below (bS BK307.out) hb); clear hb hbox hg) | ((with_reducible refine gate_dst (N := 6) rfl ?_); refine box_event ?hg (N := 6) ?hd (cs := #[.slice none 0 0, .bool false]) (t := 24) ?hr ?_; (case hd => rfl); (case hg => rfl); (case hr => first | (go_simp; done) | (go_simp; rfl)); intro gb309 hg w7 hbox hb; replace HO0_0 := Aside0.mk (Kd.V_below (Kd.V_elderB (vS HO0_0.out) gb309 (Nat.le_of_eq hg.symm)) hb); have BK309 := Aside0.mk (hbox); have GW309 := Aside0.mk ((by rw [hg]; exact (below_size (hS HB.out)) : w.heap.size ≤ gb309)); have GE309 := Aside0.mk ((by rw [hg]; exact (below_size (hS HB.out)) : w.heap.size ≤ gb309)); replace HB := Aside0.mk (below_step (hS HB.out) hb); have NB307_309 := Aside0.mk ((by rw [hg]; exact Nat.ne_of_lt (blk_lt (bS BK307.out)) : gb307 ≠ gb309)); have NB309_307 := Aside0.mk ((by rw [hg]; exact Nat.ne_of_gt (blk_lt (bS BK307.out)) : gb309 ≠ gb307)); replace BK307 := Aside0.mk (blk_below (bS BK307.out) hb); have NB308_309 := Aside0.mk ((by rw [hg]; exact Nat.ne_of_lt (blk_lt (bS BK308.out)) : gb308 ≠ gb309)); have NB309_308 := Aside0.mk ((by rw [hg]; exact Nat.ne_of_gt (blk_lt (bS BK308.out)) : gb309 ≠ gb308)); replace BK308 := Aside0.mk (blk_below (bS BK308.out) hb); clear hb hbox hg; have hnb8 := NB307_308.out; have hnc8 := NB308_307.out; have hnb9 := NB307_309.out; have hnc9 := NB309_307.out; have hcz10_0 : w7.cell? ⟨gb307, 0, none⟩ = some (.slice A0_0 l0_0.length c0_0) := (blk_cell BK307.out 0).trans rfl; have hcz10_1 : w7.cell? ⟨gb307, 1, none⟩ = some (.bool true) := (blk_cell BK307.out 1).trans rfl; have hfz10_0 := blk_frozen BK307.out 0; have hfz10_1 := blk_frozen BK307.out 1; have hnb11 := NB309_308.out; have hnc11 := NB308_309.out; have hcz12_0 : w7.cell? ⟨gb309, 0, none⟩ = some (.slice none 0 0) := (blk_cell BK309.out 0).trans rfl; have hcz12_1 : w7.cell? ⟨gb309, 1, none⟩ = some (.bool false) := (blk_cell BK309.out 1).trans rfl; have hfz12_0 := blk_frozen BK309.out 0; have hfz12_1 := blk_frozen BK309.out 1))
    refine bodyPost_ret (results_cell_row rfl _ _ gb309 24 #[.slice A0_0 l0_0.length c0_0, .bool true] (0, 0) _ rfl (bS (blk_put (bS (blk_put (bS BK309.out) 0 _ rfl)) 1 _ rfl)) Try.underlying24 rfl (by kernel_rfl)) rfl ?_
    exact ⟨_, by first | rfl | (simp [errW_none, errW_some] <;> rfl) | (simp [*, errW_none, errW_some] <;> rfl), by (with_reducible repeat (first | apply Kd.V_alloc | apply Kd.V_drewN | apply Kd.V_drew)); exact Kd.V_mono (vF (b := gb309) (Kd.V_mono HO0_0.out (fun k_ hk => (⟨hk, hk.2⟩ : _ ∧ k_ ≠ gb309))) (fun _ hk => hk.2)) (fun _ hk => hk.1.1.1.1), by repeat (first | (with_reducible first | exact HB.out | apply below_alloc | apply pw_below_drewN | apply below_drew1 | refine below_set ?_ GE307.out | refine below_set ?_ GE308.out | refine below_set ?_ GE309.out) | exact HB.out)⟩
  · replace c4 := Bool.eq_false_iff.mpr c4
    subst c4
    have H1 : ((some (([] : List (S33)) : List (S33))).bind fun y310 => (if y310.length + l0_0.length < 2199023255552 then ((some (y310 ++ l0_0 : List (S33))).bind fun y313 => ((rollcallref17_place.f k l0_0 false a1_0).bind fun t316 => (if t316 ≥ 0 then (if 0 ≤ t316 then (if t316 < (y313.length : Int) then (some ((y313.set (t316 : Int).toNat (⟨a1_0, a1_1, (⟨a1_2, a1_3, a1_4, a1_5⟩ : S31)⟩ : S33)), false)) else (none)) else (none)) else (if (y313.length : Int) < a2 then (if y313.length < 2199023255552 then (some ((y313 ++ [(⟨a1_0, a1_1, (⟨a1_2, a1_3, a1_4, a1_5⟩ : S31)⟩ : S33)]), false)) else (none)) else (some (([] : List (S33)), true)))))) else (none))) = some (r1, r2) := by rw [if_neg (show ¬ (false = true) by decide)] at H; exact H
    clear H
    have H := H1
    clear H1
    obtain ⟨y310, hy310⟩ : ∃ y_ : List (S33), y_ = (([] : List (S33))) := ⟨_, rfl⟩
    replace H : (if y310.length + l0_0.length < 2199023255552 then ((some (y310 ++ l0_0 : List (S33))).bind fun y313 => ((rollcallref17_place.f k l0_0 false a1_0).bind fun t316 => (if t316 ≥ 0 then (if 0 ≤ t316 then (if t316 < (y313.length : Int) then (some ((y313.set (t316 : Int).toNat (⟨a1_0, a1_1, (⟨a1_2, a1_3, a1_4, a1_5⟩ : S31)⟩ : S33)), false)) else (none)) else (none)) else (if (y313.length : Int) < a2 then (if y313.length < 2199023255552 then (some ((y313 ++ [(⟨a1_0, a1_1, (⟨a1_2, a1_3, a1_4, a1_5⟩ : S31)⟩ : S33)]), false)) else (none)) else (some (([] : List (S33)), true)))))) else (none)) = some (r1, r2) := by first | (rw [hy310]; with_reducible exact H) | (have H2_ := (Option.bind_some _ _).symm.trans H; rw [hy310]; with_reducible exact H2_) | (have H2_ := (Option.bind_some _ _).symm.trans H; with_reducible exact H2_) | with_reducible exact H | (rw [hy310]; exact H) | exact H
    have Ny310 := Aside0.mk hy310
    clear hy310
    by_cases c13 : y310.length + l0_0.length < 2199023255552
    · rw [if_pos c13] at H
      have LMc13 := Aside0.mk c13
      clear c13
      obtain ⟨y313, hy313⟩ : ∃ y_ : List (S33), y_ = (y310 ++ l0_0) := ⟨_, rfl⟩
      replace H : ((rollcallref17_place.f k l0_0 false a1_0).bind fun t316 => (if t316 ≥ 0 then (if 0 ≤ t316 then (if t316 < (y313.length : Int) then (some ((y313.set (t316 : Int).toNat (⟨a1_0, a1_1, (⟨a1_2, a1_3, a1_4, a1_5⟩ : S31)⟩ : S33)), false)) else (none)) else (none)) else (if (y313.length : Int) < a2 then (if y313.length < 2199023255552 then (some ((y313 ++ [(⟨a1_0, a1_1, (⟨a1_2, a1_3, a1_4, a1_5⟩ : S31)⟩ : S33)]), false)) else (none)) else (some (([] : List (S33)), true))))) = some (r1, r2) := by first | (rw [hy313]; with_reducible exact H) | (have H2_ := (Option.bind_some _ _).symm.trans H; rw [hy313]; with_reducible exact H2_) | (have H2_ := (Option.bind_some _ _).symm.trans H; with_reducible exact H2_) | with_reducible exact H | (rw [hy313]; exact H) | exact H
      have Ny313 := Aside0.mk hy313
      clear hy313
      replace H := Option.bind_eq_some_iff.mp H
      obtain ⟨t316, A140, H⟩ := H
      replace H : (if t316 ≥ 0 then (if 0 ≤ t316 then (if t316 < (y313.length : Int) then (some ((y313.set (t316 : Int).toNat (⟨a1_0, a1_1, (⟨a1_2, a1_3, a1_4, a1_5⟩ : S31)⟩ : S33)), false)) else (none)) else (none)) else (if (y313.length : Int) < a2 then (if y313.length < 2199023255552 then (some ((y313 ++ [(⟨a1_0, a1_1, (⟨a1_2, a1_3, a1_4, a1_5⟩ : S31)⟩ : S33)]), false)) else (none)) else (some (([] : List (S33)), true)))) = some (r1, r2) := H
      have A14 := Aside0.mk A140
      clear A140
      by_cases c15 : t316 ≥ 0
      · rw [if_pos c15] at H
        have c15b0 : decide (0 ≤ t316) = true := decide_eq_true c15
        clear c15
        by_cases c16 : 0 ≤ t316
        · rw [if_pos c16] at H
          have c16b0 : decide (0 ≤ t316) = true := decide_eq_true c16
          clear c16
          by_cases c17 : t316 < (y313.length : Int)
          · rw [if_pos c17] at H
            have c17b0 : decide (t316 < (y313.length : Int)) = true := decide_eq_true c17
            clear c17
            obtain ⟨y317, hy317⟩ : ∃ y_ : List (S33), y_ = (y313.set (t316 : Int).toNat (⟨a1_0, a1_1, (⟨a1_2, a1_3, a1_4, a1_5⟩ : S31)⟩ : S33)) := ⟨_, rfl⟩
            replace H : (some (y317, false)) = some (r1, r2) := by first | (rw [hy317]; with_reducible exact H) | (have H2_ := (Option.bind_some _ _).symm.trans H; rw [hy317]; with_reducible exact H2_) | (have H2_ := (Option.bind_some _ _).symm.trans H; with_reducible exact H2_) | with_reducible exact H | (rw [hy317]; exact H) | exact H
            have Ny317 := Aside0.mk hy317
            clear hy317
            simp only [Option.some.injEq, Prod.mk.injEq] at H
            obtain ⟨rfl, rfl⟩ := H
            go_enter Try.func27, Try.ntmps27
            go_wp2_with (first | ((with_reducible refine gate_dst (N := 3) rfl ?_); refine box_event ?hg (N := 3) ?hd (cs := #[.slice A0_0 l0_0.length c0_0, .bool false]) (t := 24) ?hr ?_; (case hd => rfl); (case hg => rfl); (case hr => first | (go_simp; done) | (go_simp; rfl)); intro gb307 hg w19 hbox hb; replace HO0_0 := Aside0.mk (Kd.V_below (Kd.V_elderB (vS HO0_0.out) gb307 (Nat.le_of_eq hg.symm)) hb); have BK307 := Aside0.mk (hbox); have GW307 := Aside0.mk ((by rw [hg]; exact (below_size (hS HB.out)) : w.heap.size ≤ gb307)); have GE307 := Aside0.mk ((by rw [hg]; exact (below_size (hS HB.out)) : w.heap.size ≤ gb307)); replace HB := Aside0.mk (below_step (hS HB.out) hb); clear hb hbox hg) | ((with_reducible refine gate_dst (N := 4) rfl ?_); refine box_event ?hg (N := 4) ?hd (cs := #[.string a1_0, .bool a1_1, .int .i64 a1_2, .int .i64 a1_3, .int .i64 a1_4, .string a1_5]) (t := 33) ?hr ?_; (case hd => rfl); (case hg => rfl); (case hr => first | (go_simp; done) | (go_simp; rfl)); intro gb308 hg w20 hbox hb; replace HO0_0 := Aside0.mk (Kd.V_below (Kd.V_elderB (vS HO0_0.out) gb308 (Nat.le_of_eq hg.symm)) hb); have BK308 := Aside0.mk (hbox); have GW308 := Aside0.mk ((by rw [hg]; exact (below_size (hS HB.out)) : w.heap.size ≤ gb308)); have GE308 := Aside0.mk ((by rw [hg]; exact (below_size (hS HB.out)) : w.heap.size ≤ gb308)); replace HB := Aside0.mk (below_step (hS HB.out) hb); have NB307_308 := Aside0.mk ((by rw [hg]; exact Nat.ne_of_lt (blk_lt (bS BK307.out)) : gb307 ≠ gb308)); have NB308_307 := Aside0.mk ((by rw [hg]; exact Nat.ne_of_gt (blk_lt (bS BK307.out)) : gb308 ≠ gb307)); replace BK307 := Aside0.mk (blk_below (bS BK307.out) hb); clear hb hbox hg) | ((with_reducible refine gate_dst (N := 6) rfl ?_); refine box_event ?hg (N := 6) ?hd (cs := #[.slice none 0 0, .bool false]) (t := 24) ?hr ?_; (case hd => rfl); (case hg => rfl); (case hr => first | (go_simp; done) | (go_simp; rfl)); intro gb309 hg w21 hbox hb; replace HO0_0 := Aside0.mk (Kd.V_below (Kd.V_elderB (vS HO0_0.out) gb309 (Nat.le_of_eq hg.symm)) hb); have BK309 := Aside0.mk (hbox); have GW309 := Aside0.mk ((by rw [hg]; exact (below_size (hS HB.out)) : w.heap.size ≤ gb309)); have GE309 := Aside0.mk ((by rw [hg]; exact (below_size (hS HB.out)) : w.heap.size ≤ gb309)); replace HB := Aside0.mk (below_step (hS HB.out) hb); have NB307_309 := Aside0.mk ((by rw [hg]; exact Nat.ne_of_lt (blk_lt (bS BK307.out)) : gb307 ≠ gb309)); have NB309_307 := Aside0.mk ((by rw [hg]; exact Nat.ne_of_gt (blk_lt (bS BK307.out)) : gb309 ≠ gb307)); replace BK307 := Aside0.mk (blk_below (bS BK307.out) hb); have NB308_309 := Aside0.mk ((by rw [hg]; exact Nat.ne_of_lt (blk_lt (bS BK308.out)) : gb308 ≠ gb309)); have NB309_308 := Aside0.mk ((by rw [hg]; exact Nat.ne_of_gt (blk_lt (bS BK308.out)) : gb309 ≠ gb308)); replace BK308 := Aside0.mk (blk_below (bS BK308.out) hb); clear hb hbox hg; have hnb22 := NB307_308.out; have hnc22 := NB308_307.out; have hnb23 := NB307_309.out; have hnc23 := NB309_307.out; have hcz24_0 : w21.cell? ⟨gb307, 0, none⟩ = some (.slice A0_0 l0_0.length c0_0) := (blk_cell BK307.out 0).trans rfl; have hcz24_1 : w21.cell? ⟨gb307, 1, none⟩ = some (.bool false) := (blk_cell BK307.out 1).trans rfl; have hfz24_0 := blk_frozen BK307.out 0; have hfz24_1 := blk_frozen BK307.out 1) | ((with_reducible refine gate_dst (N := 12) rfl ?_); refine Kd.R_lit k33 _ 33 ?hg (N := 12) ?hd (xs := ([] : List (S33))) (inner := []) (ok := fun _ => True) (okp := fun _ => True) ?hr ?hp (fun _ hk => hk) trivial (Below.refl _ _) (Nat.le_refl _) (by simp) ?_; (case hd => rfl); (case hg => rfl); (case hr => first | (go_simp; done) | (go_simp; rfl)); (case hp => exact (Reps.none _ _)); intro v311 w25 ho26 hb hg_ hnew_; clear hg_ hnew_; (first | rw [← Ny310.out] at ho26 | (simp only [Int.reduceToNat] at ho26; rw [← Ny310.out] at ho26)); replace HO0_0 := Aside0.mk (Kd.V_elder' (vS HO0_0.out) (Kd.R_base ho26) hb); have HO312 := Aside0.mk (Kd.R_lower (Kd.R_newB (Kd.R_newM (M := fun k_ => (w.heap.size ≤ k_)) ho26 (below_size (hS HB.out)) (fun k_ h_ => h_)) (bS BK308.out)) (below_size (hS HB.out))); replace BK307 := Aside0.mk (blk_below (bS BK307.out) hb); replace BK308 := Aside0.mk (blk_below (bS BK308.out) hb); replace BK309 := Aside0.mk (blk_below (bS BK309.out) hb); replace HB := Aside0.mk (below_step (hS HB.out) hb); clear hb ho26; have hcz27_0 : w25.cell? ⟨gb307, 0, none⟩ = some (.slice A0_0 l0_0.length c0_0) := (blk_cell BK307.out 0).trans rfl; have hcz27_1 : w25.cell? ⟨gb307, 1, none⟩ = some (.bool false) := (blk_cell BK307.out 1).trans rfl; have hfz27_0 := blk_frozen BK307.out 0; have hfz27_1 := blk_frozen BK307.out 1) | ((with_reducible refine gate_builtin (b := .append) (xs := #[.tmp 12, .tmp 14]) rfl ?_); at_builtin; refine Kd.R_append_rows k33 (w0 := w) w.heap.size rfl (.tmp 12) (.tmp 14) 22 33 (.agg #[(.string ⟨#[]⟩), (.bool false), (.int .i64 0), (.int .i64 0), (.int .i64 0), (.string ⟨#[]⟩)]) 64 rfl Try.underlying22 info33 rfl (by decide) (by omega) v311 y310 l0_0 _ _ _ (fun k_ => (w.heap.size ≤ k_) ∧ k_ ≠ gb308) (fun _ => False) rfl rfl ?aO ?aR (fun _ _ h => h) (fun _ h => h.elim) ?aF ?aB ?aS ?aL ?_; (case aR => repeat (first | exact (Kd.V_reads' HO0_0.out).2.2 | (with_reducible refine Kd.C_alloc ?_ _) | (with_reducible refine Kd.C_drewN ?_ _) | (with_reducible refine Kd.C_drew ?_))); (case aB => exact (hS HB.out)); (case aF => exact (fun k_ hk => ⟨(Nat.le_trans (below_size (hS HB.out)) hk), Kd.freshB (bS BK308.out) k_ hk⟩)); (case aO => exact (by (with_reducible repeat (first | apply Kd.R_alloc | apply Kd.R_drewN | apply Kd.R_drew)); exact Kd.R_mono HO312.out (fun _ hk => ⟨hk.1.1, hk.2⟩))); (case aS => exact (below_size (hS HB.out))); (case aL => have := LMc13.out; omega); intro v314 w28 ho hb hg hat; rw [← Ny313.out] at ho; replace HO0_0 := Aside0.mk (Kd.V_afterv (ok := (fun k_ => (P0_0_ k_ ∨ w.heap.size ≤ k_) ∧ k_ ≠ gb307 ∧ k_ ≠ gb308 ∧ k_ ≠ gb309)) (by (with_reducible repeat (first | apply Kd.V_alloc | apply Kd.V_drewN | apply Kd.V_drew)); exact Kd.V_mono HO0_0.out (fun _ hk => ⟨⟨hk.1.1.1.1, ⟨hk.1.1.1.2, ⟨hk.1.1.2, hk.1.2⟩⟩⟩, hk.2⟩)) hg hat); replace BK307 := Aside0.mk (blk_grown (bS BK307.out) hg (Kd.R_ne HO312.out BK307.out (by decide))); replace BK308 := Aside0.mk (blk_grown (bS BK308.out) hg (Kd.R_away HO312.out (fun _ hk => hk.2))); replace BK309 := Aside0.mk (blk_grown (bS BK309.out) hg (Kd.R_ne HO312.out BK309.out (by decide))); replace HB := Aside0.mk (hb); have HO315 := Aside0.mk (ho); clear HO312; clear ho hb hg hat; have hcz29_0 : w28.cell? ⟨gb307, 0, none⟩ = some (.slice A0_0 l0_0.length c0_0) := (blk_cell BK307.out 0).trans rfl; have hcz29_1 : w28.cell? ⟨gb307, 1, none⟩ = some (.bool false) := (blk_cell BK307.out 1).trans rfl; have hfz29_0 := blk_frozen BK307.out 0; have hfz29_1 := blk_frozen BK307.out 1; have hnb30 := NB308_309.out; have hnc30 := NB309_308.out; have hcz31_0 : w28.cell? ⟨gb308, 0, none⟩ = some (.string a1_0) := (blk_cell BK308.out 0).trans rfl; have hcz31_1 : w28.cell? ⟨gb308, 1, none⟩ = some (.bool a1_1) := (blk_cell BK308.out 1).trans rfl; have hcz31_2 : w28.cell? ⟨gb308, 2, none⟩ = some (.int .i64 a1_2) := (blk_cell BK308.out 2).trans rfl; have hcz31_3 : w28.cell? ⟨gb308, 3, none⟩ = some (.int .i64 a1_3) := (blk_cell BK308.out 3).trans rfl; have hcz31_4 : w28.cell? ⟨gb308, 4, none⟩ = some (.int .i64 a1_4) := (blk_cell BK308.out 4).trans rfl; have hcz31_5 : w28.cell? ⟨gb308, 5, none⟩ = some (.string a1_5) := (blk_cell BK308.out 5).trans rfl; have hfz31_0 := blk_frozen BK308.out 0; have hfz31_1 := blk_frozen BK308.out 1; have hfz31_2 := blk_frozen BK308.out 2; have hfz31_3 := blk_frozen BK308.out 3; have hfz31_4 := blk_frozen BK308.out 4; have hfz31_5 := blk_frozen BK308.out 5) | ((with_reducible refine gate_callee (f := 36) rfl ?_); refine goesL_ (some 19) rfl rfl Try.func36 (by kernel_rfl) rfl #[.agg #[.slice A0_0 l0_0.length c0_0, .bool false], .string a1_0] rfl (by (try simp only [List.map_toArray, List.map_cons, List.map_nil]); first | done | rfl | (simp only [List.length_drop, List.length_take]; rfl)) ?_; (with_reducible refine (rollcallref17_place.calls k _ _ l0_0 false a1_0 t316 _ ?side1 ?side2 A14.out).mono ?_); (case side1 => repeat (first | exact (Kd.V_reads' HO0_0.out).2.2 | (with_reducible refine Kd.C_alloc ?_ _) | (with_reducible refine Kd.C_drewN ?_ _) | (with_reducible refine Kd.C_drew ?_))); (case side2 => exact (Kd.V_reads' HO0_0.out).2.1); rintro e w32 ⟨rfl, hb⟩; refine ⟨_, rfl, ?_⟩; replace HO0_0 := Aside0.mk (Kd.V_below (vS HO0_0.out) hb); replace HO315 := Aside0.mk (Kd.R_below (rS HO315.out) hb); replace BK307 := Aside0.mk (blk_below (bS BK307.out) hb); replace BK308 := Aside0.mk (blk_below (bS BK308.out) hb); replace BK309 := Aside0.mk (blk_below (bS BK309.out) hb); replace HB := Aside0.mk (below_step (hS HB.out) hb); (try clear hb); (try clear hb2); (try clear hk); (try clear hi); have hcz33_0 : w32.cell? ⟨gb308, 0, none⟩ = some (.string a1_0) := (blk_cell BK308.out 0).trans rfl; have hcz33_1 : w32.cell? ⟨gb308, 1, none⟩ = some (.bool a1_1) := (blk_cell BK308.out 1).trans rfl; have hcz33_2 : w32.cell? ⟨gb308, 2, none⟩ = some (.int .i64 a1_2) := (blk_cell BK308.out 2).trans rfl; have hcz33_3 : w32.cell? ⟨gb308, 3, none⟩ = some (.int .i64 a1_3) := (blk_cell BK308.out 3).trans rfl; have hcz33_4 : w32.cell? ⟨gb308, 4, none⟩ = some (.int .i64 a1_4) := (blk_cell BK308.out 4).trans rfl; have hcz33_5 : w32.cell? ⟨gb308, 5, none⟩ = some (.string a1_5) := (blk_cell BK308.out 5).trans rfl; have hfz33_0 := blk_frozen BK308.out 0; have hfz33_1 := blk_frozen BK308.out 1; have hfz33_2 := blk_frozen BK308.out 2; have hfz33_3 := blk_frozen BK308.out 3; have hfz33_4 := blk_frozen BK308.out 4; have hfz33_5 := blk_frozen BK308.out 5; have p18 : 0 ≤ (t316 : Int) := of_decide_eq_true (by first | (with_reducible assumption) | assumption); have q18 : (t316 : Int) < ((y313.length : Int) : Int) := of_decide_eq_true (by first | (with_reducible assumption) | assumption); obtain ⟨go18, co18, eo18, gb18, gl18, cl18, HG18⟩ := Kd.R_form HO315.out (by omega); (first | cases eo18 | (injection eo18 with ea_ en_ ec_; (first | subst ea_ | (injection ea_ with ea_; subst ea_)); subst ec_; clear en_)); have GB18 := Aside0.mk gb18; have GG18 := Aside0.mk HG18; clear gb18 gl18 HG18; obtain ⟨ce18, hcl18, hM18, hcc18, hfr18⟩ := Kd.R_elem HO315.out z33 (t316 : Int) p18 q18; obtain rfl := k33_openM hM18; have hx18_0 : w32.cell? ⟨go18, (t316 : Int).toNat * 6, none⟩ = some (.string ((rd_T33 y313 t316).f0)) := hcc18 0 _ rfl; have hx18_1 : w32.cell? ⟨go18, (t316 : Int).toNat * 6 + 1, none⟩ = some (.bool ((rd_T33 y313 t316).f1)) := hcc18 1 _ rfl; have hx18_2 : w32.cell? ⟨go18, (t316 : Int).toNat * 6 + 2, none⟩ = some (.int .i64 ((rd_T33 y313 t316).f2.f0)) := hcc18 2 _ rfl; have hx18_3 : w32.cell? ⟨go18, (t316 : Int).toNat * 6 + 3, none⟩ = some (.int .i64 ((rd_T33 y313 t316).f2.f1)) := hcc18 3 _ rfl; have hx18_4 : w32.cell? ⟨go18, (t316 : Int).toNat * 6 + 4, none⟩ = some (.int .i64 ((rd_T33 y313 t316).f2.f2)) := hcc18 4 _ rfl; have hx18_5 : w32.cell? ⟨go18, (t316 : Int).toNat * 6 + 5, none⟩ = some (.string ((rd_T33 y313 t316).f2.f3)) := hcc18 5 _ rfl; have hf18_0 : w32.frozen? ⟨go18, (t316 : Int).toNat * 6, none⟩ = false := hfr18 0; have hf18_1 : w32.frozen? ⟨go18, (t316 : Int).toNat * 6 + 1, none⟩ = false := hfr18 1; have hf18_2 : w32.frozen? ⟨go18, (t316 : Int).toNat * 6 + 2, none⟩ = false := hfr18 2; have hf18_3 : w32.frozen? ⟨go18, (t316 : Int).toNat * 6 + 3, none⟩ = false := hfr18 3; have hf18_4 : w32.frozen? ⟨go18, (t316 : Int).toNat * 6 + 4, none⟩ = false := hfr18 4; have hf18_5 : w32.frozen? ⟨go18, (t316 : Int).toNat * 6 + 5, none⟩ = false := hfr18 5; clear hcl18 hcc18 hfr18 hM18; replace p18 := eq_true p18; replace q18 := eq_true q18; have HX34 := Aside0.mk (show Kd.R k33 33 w32 w.heap.size (fun k_ => (w.heap.size ≤ k_) ∧ k_ ≠ gb308) (.slice (some ⟨go18, 0, none⟩) y313.length co18) y313 from (rS HO315.out)); obtain ⟨ce34, hcl34, hM34, hcc34, hfr34⟩ := Kd.R_elem HX34.out z33 (t316 : Int) (of_decide_eq_true (by first | (with_reducible assumption) | assumption)) (by have h_ : (t316 : Int) < ((y313.length : Int) : Int) := of_decide_eq_true (by first | (with_reducible assumption) | assumption); first | exact h_ | (have e_ := (Kd.R_reads' HO315.out).1; omega) | simpa using h_); obtain rfl := k33_openM hM34; have HP34 := Kd.R_seg HX34.out (t316 : Int) (of_decide_eq_true (by first | (with_reducible assumption) | assumption)) (by have h_ : (t316 : Int) < ((y313.length : Int) : Int) := of_decide_eq_true (by first | (with_reducible assumption) | assumption); first | exact h_ | (have e_ := (Kd.R_reads' HO315.out).1; omega) | simpa using h_) (seg := [.string a1_0, .bool a1_1, .int .i64 a1_2, .int .i64 a1_3, .int .i64 a1_4, .string a1_5]) (j := 0) hcl34 hcc34 (show 6 ≤ 6 from by decide) (x' := (⟨a1_0, a1_1, (⟨a1_2, a1_3, a1_4, a1_5⟩ : S31)⟩ : S33)) (k33_mkM _ _ _ (⟨a1_0, a1_1, (⟨a1_2, a1_3, a1_4, a1_5⟩ : S31)⟩ : S33) ) (fun _ hk => hk); have hx34_0 := hcc34 0 _ rfl; (try simp only [show (k33).sz = 6 from rfl, Nat.mul_one, Nat.add_zero] at hx34_0); have hf34_0 := hfr34 0; (try simp only [show (k33).sz = 6 from rfl, Nat.mul_one, Nat.add_zero] at hf34_0); have hx34_1 := hcc34 1 _ rfl; (try simp only [show (k33).sz = 6 from rfl, Nat.mul_one, Nat.add_zero] at hx34_1); have hf34_1 := hfr34 1; (try simp only [show (k33).sz = 6 from rfl, Nat.mul_one, Nat.add_zero] at hf34_1); have hx34_2 := hcc34 2 _ rfl; (try simp only [show (k33).sz = 6 from rfl, Nat.mul_one, Nat.add_zero] at hx34_2); have hf34_2 := hfr34 2; (try simp only [show (k33).sz = 6 from rfl, Nat.mul_one, Nat.add_zero] at hf34_2); have hx34_3 := hcc34 3 _ rfl; (try simp only [show (k33).sz = 6 from rfl, Nat.mul_one, Nat.add_zero] at hx34_3); have hf34_3 := hfr34 3; (try simp only [show (k33).sz = 6 from rfl, Nat.mul_one, Nat.add_zero] at hf34_3); have hx34_4 := hcc34 4 _ rfl; (try simp only [show (k33).sz = 6 from rfl, Nat.mul_one, Nat.add_zero] at hx34_4); have hf34_4 := hfr34 4; (try simp only [show (k33).sz = 6 from rfl, Nat.mul_one, Nat.add_zero] at hf34_4); have hx34_5 := hcc34 5 _ rfl; (try simp only [show (k33).sz = 6 from rfl, Nat.mul_one, Nat.add_zero] at hx34_5); have hf34_5 := hfr34 5; (try simp only [show (k33).sz = 6 from rfl, Nat.mul_one, Nat.add_zero] at hf34_5); clear hcl34 hcc34 hfr34 hM34) | ((with_reducible refine gate_store (t := 33) (p := 25) rfl ?_); refine store_event (t := 33) (p := 25) (v := ?vo_w35) (w1 := ((((((w32.setCell ⟨go18, (t316 : Int).toNat * 6, none⟩ (.string a1_0)).setCell ⟨go18, (t316 : Int).toNat * 6 + 1, none⟩ (.bool a1_1)).setCell ⟨go18, (t316 : Int).toNat * 6 + 2, none⟩ (.int .i64 a1_2)).setCell ⟨go18, (t316 : Int).toNat * 6 + 3, none⟩ (.int .i64 a1_3)).setCell ⟨go18, (t316 : Int).toNat * 6 + 4, none⟩ (.int .i64 a1_4)).setCell ⟨go18, (t316 : Int).toNat * 6 + 5, none⟩ (.string a1_5))) ?hg ?ho ?hn ?hr ?_; (case ho => rfl); (case hg => rfl); (case hn => rfl); (case hr => first | (go_simp; done) | (go_simp; rfl)); intro w35 hw; have hg : w32.grownBy w35 (some go18) := (by rw [hw]; exact HP34.2); have hp_ : Kd.R k33 33 w35 w.heap.size (fun k_ => (w.heap.size ≤ k_) ∧ k_ ≠ gb308) (.slice (some ⟨go18, 0, none⟩) y313.length co18) y317 := (by rw [hw, Ny317.out]; exact HP34.1); clear HP34; replace HO0_0 := Aside0.mk (Kd.V_afterv (v := (.slice (some ⟨go18, 0, none⟩) y313.length co18)) (v1 := (.slice (some ⟨go18, 0, none⟩) y313.length co18)) (ok := (fun k_ => (P0_0_ k_ ∨ w.heap.size ≤ k_) ∧ k_ ≠ gb307 ∧ k_ ≠ gb308 ∧ k_ ≠ gb309)) (vS HO0_0.out) hg (.inl rfl)); replace BK307 := Aside0.mk (blk_grown (bS BK307.out) hg (Kd.R_ne HO315.out BK307.out (by decide))); replace BK308 := Aside0.mk (blk_grown (bS BK308.out) hg (Kd.R_away HO315.out (fun _ hk => hk.2))); replace BK309 := Aside0.mk (blk_grown (bS BK309.out) hg (Kd.R_ne HO315.out BK309.out (by decide))); replace HO315 := Aside0.mk (hp_); replace HB := Aside0.mk ((by rw [hw]; exact below_set (below_set (below_set (below_set (below_set (below_set (HB.out) GB18.out) GB18.out) GB18.out) GB18.out) GB18.out) GB18.out : Below w.heap.size w w35)); clear hg hw hp_; have hcz36_0 : w35.cell? ⟨gb309, 0, none⟩ = some (.slice none 0 0) := (blk_cell BK309.out 0).trans rfl; have hcz36_1 : w35.cell? ⟨gb309, 1, none⟩ = some (.bool false) := (blk_cell BK309.out 1).trans rfl; have hfz36_0 := blk_frozen BK309.out 0; have hfz36_1 := blk_frozen BK309.out 1))
            refine bodyPost_ret (results_cell_row rfl _ _ gb309 24 #[.slice (some ⟨go18, 0, none⟩) y313.length co18, .bool false] (0, 0) _ rfl (bS (blk_put (bS (blk_put (bS BK309.out) 0 _ rfl)) 1 _ rfl)) Try.underlying24 rfl (by kernel_rfl)) rfl ?_
            exact ⟨_, by first | rfl | (simp [errW_none, errW_some] <;> rfl) | (simp [*, errW_none, errW_some] <;> rfl), Kd.V_mono (Kd.R_V (by (with_reducible repeat (first | apply Kd.R_alloc | apply Kd.R_drewN | apply Kd.R_drew)); exact Kd.R_mono (Kd.R_far (p := ⟨gb309, 1, none⟩) (Kd.R_far (p := ⟨gb309, 0, none⟩) (Kd.R_types HO315.out BK309.out (by decide)) (fun _ hk => hk.2) (.slice (some ⟨go18, 0, none⟩) y313.length co18)) (fun _ hk => hk.2) (.bool false)) (fun _ hk => hk.1.1))) (fun k_ hk => by first | exact ⟨(.inr (hk.1)), hk.2⟩ | exact (.inr (hk))), by repeat (first | (with_reducible first | exact HB.out | apply below_alloc | apply pw_below_drewN | apply below_drew1 | refine below_set ?_ GE307.out | refine below_set ?_ GE308.out | refine below_set ?_ GE309.out) | exact HB.out)⟩
          · rw [if_neg c17] at H
            exact absurd H (by simp)
        · rw [if_neg c16] at H
          exact absurd H (by simp)
      · rw [if_neg c15] at H
        have c15b0 : decide (0 ≤ t316) = false := decide_eq_false c15
        clear c15
        by_cases c37 : (y313.length : Int) < a2
        · rw [if_pos c37] at H
          have c37b0 : decide ((y313.length : Int) < a2) = true := decide_eq_true c37
          clear c37
          by_cases c38 : y313.length < 2199023255552
          · rw [if_pos c38] at H
            have LMc38 := Aside0.mk c38
            clear c38
            obtain ⟨y318, hy318⟩ : ∃ y_ : List (S33), y_ = (y313 ++ [(⟨a1_0, a1_1, (⟨a1_2, a1_3, a1_4, a1_5⟩ : S31)⟩ : S33)]) := ⟨_, rfl⟩
            replace H : (some (y318, false)) = some (r1, r2) := by first | (rw [hy318]; with_reducible exact H) | (have H2_ := (Option.bind_some _ _).symm.trans H; rw [hy318]; with_reducible exact H2_) | (have H2_ := (Option.bind_some _ _).symm.trans H; with_reducible exact H2_) | with_reducible exact H | (rw [hy318]; exact H) | exact H
            have Ny318 := Aside0.mk hy318
            clear hy318
            simp only [Option.some.injEq, Prod.mk.injEq] at H
            obtain ⟨rfl, rfl⟩ := H
            go_enter Try.func27, Try.ntmps27
            go_wp2_with (first | ((with_reducible refine gate_dst (N := 3) rfl ?_); refine box_event ?hg (N := 3) ?hd (cs := #[.slice A0_0 l0_0.length c0_0, .bool false]) (t := 24) ?hr ?_; (case hd => rfl); (case hg => rfl); (case hr => first | (go_simp; done) | (go_simp; rfl)); intro gb307 hg w39 hbox hb; replace HO0_0 := Aside0.mk (Kd.V_below (Kd.V_elderB (vS HO0_0.out) gb307 (Nat.le_of_eq hg.symm)) hb); have BK307 := Aside0.mk (hbox); have GW307 := Aside0.mk ((by rw [hg]; exact (below_size (hS HB.out)) : w.heap.size ≤ gb307)); have GE307 := Aside0.mk ((by rw [hg]; exact (below_size (hS HB.out)) : w.heap.size ≤ gb307)); replace HB := Aside0.mk (below_step (hS HB.out) hb); clear hb hbox hg) | ((with_reducible refine gate_dst (N := 4) rfl ?_); refine box_event ?hg (N := 4) ?hd (cs := #[.string a1_0, .bool a1_1, .int .i64 a1_2, .int .i64 a1_3, .int .i64 a1_4, .string a1_5]) (t := 33) ?hr ?_; (case hd => rfl); (case hg => rfl); (case hr => first | (go_simp; done) | (go_simp; rfl)); intro gb308 hg w40 hbox hb; replace HO0_0 := Aside0.mk (Kd.V_below (Kd.V_elderB (vS HO0_0.out) gb308 (Nat.le_of_eq hg.symm)) hb); have BK308 := Aside0.mk (hbox); have GW308 := Aside0.mk ((by rw [hg]; exact (below_size (hS HB.out)) : w.heap.size ≤ gb308)); have GE308 := Aside0.mk ((by rw [hg]; exact (below_size (hS HB.out)) : w.heap.size ≤ gb308)); replace HB := Aside0.mk (below_step (hS HB.out) hb); have NB307_308 := Aside0.mk ((by rw [hg]; exact Nat.ne_of_lt (blk_lt (bS BK307.out)) : gb307 ≠ gb308)); have NB308_307 := Aside0.mk ((by rw [hg]; exact Nat.ne_of_gt (blk_lt (bS BK307.out)) : gb308 ≠ gb307)); replace BK307 := Aside0.mk (blk_below (bS BK307.out) hb); clear hb hbox hg) | ((with_reducible refine gate_dst (N := 6) rfl ?_); refine box_event ?hg (N := 6) ?hd (cs := #[.slice none 0 0, .bool false]) (t := 24) ?hr ?_; (case hd => rfl); (case hg => rfl); (case hr => first | (go_simp; done) | (go_simp; rfl)); intro gb309 hg w41 hbox hb; replace HO0_0 := Aside0.mk (Kd.V_below (Kd.V_elderB (vS HO0_0.out) gb309 (Nat.le_of_eq hg.symm)) hb); have BK309 := Aside0.mk (hbox); have GW309 := Aside0.mk ((by rw [hg]; exact (below_size (hS HB.out)) : w.heap.size ≤ gb309)); have GE309 := Aside0.mk ((by rw [hg]; exact (below_size (hS HB.out)) : w.heap.size ≤ gb309)); replace HB := Aside0.mk (below_step (hS HB.out) hb); have NB307_309 := Aside0.mk ((by rw [hg]; exact Nat.ne_of_lt (blk_lt (bS BK307.out)) : gb307 ≠ gb309)); have NB309_307 := Aside0.mk ((by rw [hg]; exact Nat.ne_of_gt (blk_lt (bS BK307.out)) : gb309 ≠ gb307)); replace BK307 := Aside0.mk (blk_below (bS BK307.out) hb); have NB308_309 := Aside0.mk ((by rw [hg]; exact Nat.ne_of_lt (blk_lt (bS BK308.out)) : gb308 ≠ gb309)); have NB309_308 := Aside0.mk ((by rw [hg]; exact Nat.ne_of_gt (blk_lt (bS BK308.out)) : gb309 ≠ gb308)); replace BK308 := Aside0.mk (blk_below (bS BK308.out) hb); clear hb hbox hg; have hnb42 := NB307_308.out; have hnc42 := NB308_307.out; have hnb43 := NB307_309.out; have hnc43 := NB309_307.out; have hcz44_0 : w41.cell? ⟨gb307, 0, none⟩ = some (.slice A0_0 l0_0.length c0_0) := (blk_cell BK307.out 0).trans rfl; have hcz44_1 : w41.cell? ⟨gb307, 1, none⟩ = some (.bool false) := (blk_cell BK307.out 1).trans rfl; have hfz44_0 := blk_frozen BK307.out 0; have hfz44_1 := blk_frozen BK307.out 1) | ((with_reducible refine gate_dst (N := 12) rfl ?_); refine Kd.R_lit k33 _ 33 ?hg (N := 12) ?hd (xs := ([] : List (S33))) (inner := []) (ok := fun _ => True) (okp := fun _ => True) ?hr ?hp (fun _ hk => hk) trivial (Below.refl _ _) (Nat.le_refl _) (by simp) ?_; (case hd => rfl); (case hg => rfl); (case hr => first | (go_simp; done) | (go_simp; rfl)); (case hp => exact (Reps.none _ _)); intro v311 w45 ho46 hb hg_ hnew_; clear hg_ hnew_; (first | rw [← Ny310.out] at ho46 | (simp only [Int.reduceToNat] at ho46; rw [← Ny310.out] at ho46)); replace HO0_0 := Aside0.mk (Kd.V_elder' (vS HO0_0.out) (Kd.R_base ho46) hb); have HO312 := Aside0.mk (Kd.R_lower (Kd.R_newB (Kd.R_newM (M := fun k_ => (w.heap.size ≤ k_)) ho46 (below_size (hS HB.out)) (fun k_ h_ => h_)) (bS BK308.out)) (below_size (hS HB.out))); replace BK307 := Aside0.mk (blk_below (bS BK307.out) hb); replace BK308 := Aside0.mk (blk_below (bS BK308.out) hb); replace BK309 := Aside0.mk (blk_below (bS BK309.out) hb); replace HB := Aside0.mk (below_step (hS HB.out) hb); clear hb ho46; have hcz47_0 : w45.cell? ⟨gb307, 0, none⟩ = some (.slice A0_0 l0_0.length c0_0) := (blk_cell BK307.out 0).trans rfl; have hcz47_1 : w45.cell? ⟨gb307, 1, none⟩ = some (.bool false) := (blk_cell BK307.out 1).trans rfl; have hfz47_0 := blk_frozen BK307.out 0; have hfz47_1 := blk_frozen BK307.out 1) | ((with_reducible refine gate_builtin (b := .append) (xs := #[.tmp 12, .tmp 14]) rfl ?_); at_builtin; refine Kd.R_append_rows k33 (w0 := w) w.heap.size rfl (.tmp 12) (.tmp 14) 22 33 (.agg #[(.string ⟨#[]⟩), (.bool false), (.int .i64 0), (.int .i64 0), (.int .i64 0), (.string ⟨#[]⟩)]) 64 rfl Try.underlying22 info33 rfl (by decide) (by omega) v311 y310 l0_0 _ _ _ (fun k_ => (w.heap.size ≤ k_) ∧ k_ ≠ gb308) (fun _ => False) rfl rfl ?aO ?aR (fun _ _ h => h) (fun _ h => h.elim) ?aF ?aB ?aS ?aL ?_; (case aR => repeat (first | exact (Kd.V_reads' HO0_0.out).2.2 | (with_reducible refine Kd.C_alloc ?_ _) | (with_reducible refine Kd.C_drewN ?_ _) | (with_reducible refine Kd.C_drew ?_))); (case aB => exact (hS HB.out)); (case aF => exact (fun k_ hk => ⟨(Nat.le_trans (below_size (hS HB.out)) hk), Kd.freshB (bS BK308.out) k_ hk⟩)); (case aO => exact (by (with_reducible repeat (first | apply Kd.R_alloc | apply Kd.R_drewN | apply Kd.R_drew)); exact Kd.R_mono HO312.out (fun _ hk => ⟨hk.1.1, hk.2⟩))); (case aS => exact (below_size (hS HB.out))); (case aL => have := LMc13.out; omega); intro v314 w48 ho hb hg hat; rw [← Ny313.out] at ho; replace HO0_0 := Aside0.mk (Kd.V_afterv (ok := (fun k_ => (P0_0_ k_ ∨ w.heap.size ≤ k_) ∧ k_ ≠ gb307 ∧ k_ ≠ gb308 ∧ k_ ≠ gb309)) (by (with_reducible repeat (first | apply Kd.V_alloc | apply Kd.V_drewN | apply Kd.V_drew)); exact Kd.V_mono HO0_0.out (fun _ hk => ⟨⟨hk.1.1.1.1, ⟨hk.1.1.1.2, ⟨hk.1.1.2, hk.1.2⟩⟩⟩, hk.2⟩)) hg hat); replace BK307 := Aside0.mk (blk_grown (bS BK307.out) hg (Kd.R_ne HO312.out BK307.out (by decide))); replace BK308 := Aside0.mk (blk_grown (bS BK308.out) hg (Kd.R_away HO312.out (fun _ hk => hk.2))); replace BK309 := Aside0.mk (blk_grown (bS BK309.out) hg (Kd.R_ne HO312.out BK309.out (by decide))); replace HB := Aside0.mk (hb); have HO315 := Aside0.mk (ho); clear HO312; clear ho hb hg hat; have hcz49_0 : w48.cell? ⟨gb307, 0, none⟩ = some (.slice A0_0 l0_0.length c0_0) := (blk_cell BK307.out 0).trans rfl; have hcz49_1 : w48.cell? ⟨gb307, 1, none⟩ = some (.bool false) := (blk_cell BK307.out 1).trans rfl; have hfz49_0 := blk_frozen BK307.out 0; have hfz49_1 := blk_frozen BK307.out 1; have hnb50 := NB308_309.out; have hnc50 := NB309_308.out; have hcz51_0 : w48.cell? ⟨gb308, 0, none⟩ = some (.string a1_0) := (blk_cell BK308.out 0).trans rfl; have hcz51_1 : w48.cell? ⟨gb308, 1, none⟩ = some (.bool a1_1) := (blk_cell BK308.out 1).trans rfl; have hcz51_2 : w48.cell? ⟨gb308, 2, none⟩ = some (.int .i64 a1_2) := (blk_cell BK308.out 2).trans rfl; have hcz51_3 : w48.cell? ⟨gb308, 3, none⟩ = some (.int .i64 a1_3) := (blk_cell BK308.out 3).trans rfl; have hcz51_4 : w48.cell? ⟨gb308, 4, none⟩ = some (.int .i64 a1_4) := (blk_cell BK308.out 4).trans rfl; have hcz51_5 : w48.cell? ⟨gb308, 5, none⟩ = some (.string a1_5) := (blk_cell BK308.out 5).trans rfl; have hfz51_0 := blk_frozen BK308.out 0; have hfz51_1 := blk_frozen BK308.out 1; have hfz51_2 := blk_frozen BK308.out 2; have hfz51_3 := blk_frozen BK308.out 3; have hfz51_4 := blk_frozen BK308.out 4; have hfz51_5 := blk_frozen BK308.out 5) | ((with_reducible refine gate_callee (f := 36) rfl ?_); refine goesL_ (some 19) rfl rfl Try.func36 (by kernel_rfl) rfl #[.agg #[.slice A0_0 l0_0.length c0_0, .bool false], .string a1_0] rfl (by (try simp only [List.map_toArray, List.map_cons, List.map_nil]); first | done | rfl | (simp only [List.length_drop, List.length_take]; rfl)) ?_; (with_reducible refine (rollcallref17_place.calls k _ _ l0_0 false a1_0 t316 _ ?side1 ?side2 A14.out).mono ?_); (case side1 => repeat (first | exact (Kd.V_reads' HO0_0.out).2.2 | (with_reducible refine Kd.C_alloc ?_ _) | (with_reducible refine Kd.C_drewN ?_ _) | (with_reducible refine Kd.C_drew ?_))); (case side2 => exact (Kd.V_reads' HO0_0.out).2.1); rintro e w52 ⟨rfl, hb⟩; refine ⟨_, rfl, ?_⟩; replace HO0_0 := Aside0.mk (Kd.V_below (vS HO0_0.out) hb); replace HO315 := Aside0.mk (Kd.R_below (rS HO315.out) hb); replace BK307 := Aside0.mk (blk_below (bS BK307.out) hb); replace BK308 := Aside0.mk (blk_below (bS BK308.out) hb); replace BK309 := Aside0.mk (blk_below (bS BK309.out) hb); replace HB := Aside0.mk (below_step (hS HB.out) hb); (try clear hb); (try clear hb2); (try clear hk); (try clear hi); obtain ⟨Ao53, co53, eo53⟩ := Kd.R_slice HO315.out; subst eo53; have hcz54_0 : w52.cell? ⟨gb308, 0, none⟩ = some (.string a1_0) := (blk_cell BK308.out 0).trans rfl; have hcz54_1 : w52.cell? ⟨gb308, 1, none⟩ = some (.bool a1_1) := (blk_cell BK308.out 1).trans rfl; have hcz54_2 : w52.cell? ⟨gb308, 2, none⟩ = some (.int .i64 a1_2) := (blk_cell BK308.out 2).trans rfl; have hcz54_3 : w52.cell? ⟨gb308, 3, none⟩ = some (.int .i64 a1_3) := (blk_cell BK308.out 3).trans rfl; have hcz54_4 : w52.cell? ⟨gb308, 4, none⟩ = some (.int .i64 a1_4) := (blk_cell BK308.out 4).trans rfl; have hcz54_5 : w52.cell? ⟨gb308, 5, none⟩ = some (.string a1_5) := (blk_cell BK308.out 5).trans rfl; have hfz54_0 := blk_frozen BK308.out 0; have hfz54_1 := blk_frozen BK308.out 1; have hfz54_2 := blk_frozen BK308.out 2; have hfz54_3 := blk_frozen BK308.out 3; have hfz54_4 := blk_frozen BK308.out 4; have hfz54_5 := blk_frozen BK308.out 5) | ((with_reducible refine gate_builtin (b := .append) (xs := #[.tmp 32, .tmp 34]) rfl ?_); at_builtin; refine Kd.R_append k33 (w0 := w) w.heap.size rfl (.tmp 32) (.tmp 34) 22 33 (.agg #[(.string ⟨#[]⟩), (.bool false), (.int .i64 0), (.int .i64 0), (.int .i64 0), (.string ⟨#[]⟩)]) 64 rfl Try.underlying22 info33 rfl (by decide) (by omega) (.slice Ao53 y313.length co53) y313 (⟨a1_0, a1_1, (⟨a1_2, a1_3, a1_4, a1_5⟩ : S31)⟩ : S33) [.string a1_0, .bool a1_1, .int .i64 a1_2, .int .i64 a1_3, .int .i64 a1_4, .string a1_5] (fun k_ => (w.heap.size ≤ k_) ∧ k_ ≠ gb308) (fun _ => False) rfl rfl ?aP (fun _ hk => hk.elim) ?aF ?aO ?aB ?aS ?aL ?_; (case aP => exact k33_mkM _ _ _ (⟨a1_0, a1_1, (⟨a1_2, a1_3, a1_4, a1_5⟩ : S31)⟩ : S33)); (case aB => exact (hS HB.out)); (case aF => exact (fun k_ hk => ⟨(Nat.le_trans (below_size (hS HB.out)) hk), Kd.freshB (bS BK308.out) k_ hk⟩)); (case aO => exact (rS HO315.out)); (case aS => exact (below_size (hS HB.out))); (case aL => have := LMc38.out; omega); intro v319 w55 ho hb hg hat; rw [← Ny318.out] at ho; replace HO0_0 := Aside0.mk (Kd.V_afterv (ok := (fun k_ => (P0_0_ k_ ∨ w.heap.size ≤ k_) ∧ k_ ≠ gb307 ∧ k_ ≠ gb308 ∧ k_ ≠ gb309)) (vS HO0_0.out) hg hat); replace BK307 := Aside0.mk (blk_grown (bS BK307.out) hg (Kd.R_ne HO315.out BK307.out (by decide))); replace BK308 := Aside0.mk (blk_grown (bS BK308.out) hg (Kd.R_away HO315.out (fun _ hk => hk.2))); replace BK309 := Aside0.mk (blk_grown (bS BK309.out) hg (Kd.R_ne HO315.out BK309.out (by decide))); replace HB := Aside0.mk (hb); have HO320 := Aside0.mk (ho); clear HO315; clear ho hb hg hat; obtain ⟨Ao56, co56, eo56⟩ := Kd.R_slice HO320.out; subst eo56; have hcz57_0 : w55.cell? ⟨gb309, 0, none⟩ = some (.slice none 0 0) := (blk_cell BK309.out 0).trans rfl; have hcz57_1 : w55.cell? ⟨gb309, 1, none⟩ = some (.bool false) := (blk_cell BK309.out 1).trans rfl; have hfz57_0 := blk_frozen BK309.out 0; have hfz57_1 := blk_frozen BK309.out 1))
            refine bodyPost_ret (results_cell_row rfl _ _ gb309 24 #[.slice Ao56 y318.length co56, .bool false] (0, 0) _ rfl (bS (blk_put (bS (blk_put (bS BK309.out) 0 _ rfl)) 1 _ rfl)) Try.underlying24 rfl (by kernel_rfl)) rfl ?_
            exact ⟨_, by first | rfl | (simp [errW_none, errW_some] <;> rfl) | (simp [*, errW_none, errW_some] <;> rfl), Kd.V_mono (Kd.R_V (by (with_reducible repeat (first | apply Kd.R_alloc | apply Kd.R_drewN | apply Kd.R_drew)); exact Kd.R_mono (Kd.R_far (p := ⟨gb309, 1, none⟩) (Kd.R_far (p := ⟨gb309, 0, none⟩) (Kd.R_types HO320.out BK309.out (by decide)) (fun _ hk => hk.2) (.slice Ao56 y318.length co56)) (fun _ hk => hk.2) (.bool false)) (fun _ hk => hk.1.1))) (fun k_ hk => by first | exact ⟨(.inr (hk.1)), hk.2⟩ | exact (.inr (hk))), by repeat (first | (with_reducible first | exact HB.out | apply below_alloc | apply pw_below_drewN | apply below_drew1 | refine below_set ?_ GE307.out | refine below_set ?_ GE308.out | refine below_set ?_ GE309.out) | exact HB.out)⟩
          · rw [if_neg c38] at H
            exact absurd H (by simp)
        · rw [if_neg c37] at H
          have c37b0 : decide ((y313.length : Int) < a2) = false := decide_eq_false c37
          clear c37
          simp only [Option.some.injEq, Prod.mk.injEq] at H
          obtain ⟨rfl, rfl⟩ := H
          go_enter Try.func27, Try.ntmps27
          go_wp2_with (first | ((with_reducible refine gate_dst (N := 3) rfl ?_); refine box_event ?hg (N := 3) ?hd (cs := #[.slice A0_0 l0_0.length c0_0, .bool false]) (t := 24) ?hr ?_; (case hd => rfl); (case hg => rfl); (case hr => first | (go_simp; done) | (go_simp; rfl)); intro gb307 hg w58 hbox hb; replace HO0_0 := Aside0.mk (Kd.V_below (Kd.V_elderB (vS HO0_0.out) gb307 (Nat.le_of_eq hg.symm)) hb); have BK307 := Aside0.mk (hbox); have GW307 := Aside0.mk ((by rw [hg]; exact (below_size (hS HB.out)) : w.heap.size ≤ gb307)); have GE307 := Aside0.mk ((by rw [hg]; exact (below_size (hS HB.out)) : w.heap.size ≤ gb307)); replace HB := Aside0.mk (below_step (hS HB.out) hb); clear hb hbox hg) | ((with_reducible refine gate_dst (N := 4) rfl ?_); refine box_event ?hg (N := 4) ?hd (cs := #[.string a1_0, .bool a1_1, .int .i64 a1_2, .int .i64 a1_3, .int .i64 a1_4, .string a1_5]) (t := 33) ?hr ?_; (case hd => rfl); (case hg => rfl); (case hr => first | (go_simp; done) | (go_simp; rfl)); intro gb308 hg w59 hbox hb; replace HO0_0 := Aside0.mk (Kd.V_below (Kd.V_elderB (vS HO0_0.out) gb308 (Nat.le_of_eq hg.symm)) hb); have BK308 := Aside0.mk (hbox); have GW308 := Aside0.mk ((by rw [hg]; exact (below_size (hS HB.out)) : w.heap.size ≤ gb308)); have GE308 := Aside0.mk ((by rw [hg]; exact (below_size (hS HB.out)) : w.heap.size ≤ gb308)); replace HB := Aside0.mk (below_step (hS HB.out) hb); have NB307_308 := Aside0.mk ((by rw [hg]; exact Nat.ne_of_lt (blk_lt (bS BK307.out)) : gb307 ≠ gb308)); have NB308_307 := Aside0.mk ((by rw [hg]; exact Nat.ne_of_gt (blk_lt (bS BK307.out)) : gb308 ≠ gb307)); replace BK307 := Aside0.mk (blk_below (bS BK307.out) hb); clear hb hbox hg) | ((with_reducible refine gate_dst (N := 6) rfl ?_); refine box_event ?hg (N := 6) ?hd (cs := #[.slice none 0 0, .bool false]) (t := 24) ?hr ?_; (case hd => rfl); (case hg => rfl); (case hr => first | (go_simp; done) | (go_simp; rfl)); intro gb309 hg w60 hbox hb; replace HO0_0 := Aside0.mk (Kd.V_below (Kd.V_elderB (vS HO0_0.out) gb309 (Nat.le_of_eq hg.symm)) hb); have BK309 := Aside0.mk (hbox); have GW309 := Aside0.mk ((by rw [hg]; exact (below_size (hS HB.out)) : w.heap.size ≤ gb309)); have GE309 := Aside0.mk ((by rw [hg]; exact (below_size (hS HB.out)) : w.heap.size ≤ gb309)); replace HB := Aside0.mk (below_step (hS HB.out) hb); have NB307_309 := Aside0.mk ((by rw [hg]; exact Nat.ne_of_lt (blk_lt (bS BK307.out)) : gb307 ≠ gb309)); have NB309_307 := Aside0.mk ((by rw [hg]; exact Nat.ne_of_gt (blk_lt (bS BK307.out)) : gb309 ≠ gb307)); replace BK307 := Aside0.mk (blk_below (bS BK307.out) hb); have NB308_309 := Aside0.mk ((by rw [hg]; exact Nat.ne_of_lt (blk_lt (bS BK308.out)) : gb308 ≠ gb309)); have NB309_308 := Aside0.mk ((by rw [hg]; exact Nat.ne_of_gt (blk_lt (bS BK308.out)) : gb309 ≠ gb308)); replace BK308 := Aside0.mk (blk_below (bS BK308.out) hb); clear hb hbox hg; have hnb61 := NB307_308.out; have hnc61 := NB308_307.out; have hnb62 := NB307_309.out; have hnc62 := NB309_307.out; have hcz63_0 : w60.cell? ⟨gb307, 0, none⟩ = some (.slice A0_0 l0_0.length c0_0) := (blk_cell BK307.out 0).trans rfl; have hcz63_1 : w60.cell? ⟨gb307, 1, none⟩ = some (.bool false) := (blk_cell BK307.out 1).trans rfl; have hfz63_0 := blk_frozen BK307.out 0; have hfz63_1 := blk_frozen BK307.out 1) | ((with_reducible refine gate_dst (N := 12) rfl ?_); refine Kd.R_lit k33 _ 33 ?hg (N := 12) ?hd (xs := ([] : List (S33))) (inner := []) (ok := fun _ => True) (okp := fun _ => True) ?hr ?hp (fun _ hk => hk) trivial (Below.refl _ _) (Nat.le_refl _) (by simp) ?_; (case hd => rfl); (case hg => rfl); (case hr => first | (go_simp; done) | (go_simp; rfl)); (case hp => exact (Reps.none _ _)); intro v311 w64 ho65 hb hg_ hnew_; clear hg_ hnew_; (first | rw [← Ny310.out] at ho65 | (simp only [Int.reduceToNat] at ho65; rw [← Ny310.out] at ho65)); replace HO0_0 := Aside0.mk (Kd.V_elder' (vS HO0_0.out) (Kd.R_base ho65) hb); have HO312 := Aside0.mk (Kd.R_lower (Kd.R_newB (Kd.R_newM (M := fun k_ => (w.heap.size ≤ k_)) ho65 (below_size (hS HB.out)) (fun k_ h_ => h_)) (bS BK308.out)) (below_size (hS HB.out))); replace BK307 := Aside0.mk (blk_below (bS BK307.out) hb); replace BK308 := Aside0.mk (blk_below (bS BK308.out) hb); replace BK309 := Aside0.mk (blk_below (bS BK309.out) hb); replace HB := Aside0.mk (below_step (hS HB.out) hb); clear hb ho65; have hcz66_0 : w64.cell? ⟨gb307, 0, none⟩ = some (.slice A0_0 l0_0.length c0_0) := (blk_cell BK307.out 0).trans rfl; have hcz66_1 : w64.cell? ⟨gb307, 1, none⟩ = some (.bool false) := (blk_cell BK307.out 1).trans rfl; have hfz66_0 := blk_frozen BK307.out 0; have hfz66_1 := blk_frozen BK307.out 1) | ((with_reducible refine gate_builtin (b := .append) (xs := #[.tmp 12, .tmp 14]) rfl ?_); at_builtin; refine Kd.R_append_rows k33 (w0 := w) w.heap.size rfl (.tmp 12) (.tmp 14) 22 33 (.agg #[(.string ⟨#[]⟩), (.bool false), (.int .i64 0), (.int .i64 0), (.int .i64 0), (.string ⟨#[]⟩)]) 64 rfl Try.underlying22 info33 rfl (by decide) (by omega) v311 y310 l0_0 _ _ _ (fun k_ => (w.heap.size ≤ k_) ∧ k_ ≠ gb308) (fun _ => False) rfl rfl ?aO ?aR (fun _ _ h => h) (fun _ h => h.elim) ?aF ?aB ?aS ?aL ?_; (case aR => repeat (first | exact (Kd.V_reads' HO0_0.out).2.2 | (with_reducible refine Kd.C_alloc ?_ _) | (with_reducible refine Kd.C_drewN ?_ _) | (with_reducible refine Kd.C_drew ?_))); (case aB => exact (hS HB.out)); (case aF => exact (fun k_ hk => ⟨(Nat.le_trans (below_size (hS HB.out)) hk), Kd.freshB (bS BK308.out) k_ hk⟩)); (case aO => exact (by (with_reducible repeat (first | apply Kd.R_alloc | apply Kd.R_drewN | apply Kd.R_drew)); exact Kd.R_mono HO312.out (fun _ hk => ⟨hk.1.1, hk.2⟩))); (case aS => exact (below_size (hS HB.out))); (case aL => have := LMc13.out; omega); intro v314 w67 ho hb hg hat; rw [← Ny313.out] at ho; replace HO0_0 := Aside0.mk (Kd.V_afterv (ok := (fun k_ => (P0_0_ k_ ∨ w.heap.size ≤ k_) ∧ k_ ≠ gb307 ∧ k_ ≠ gb308 ∧ k_ ≠ gb309)) (by (with_reducible repeat (first | apply Kd.V_alloc | apply Kd.V_drewN | apply Kd.V_drew)); exact Kd.V_mono HO0_0.out (fun _ hk => ⟨⟨hk.1.1.1.1, ⟨hk.1.1.1.2, ⟨hk.1.1.2, hk.1.2⟩⟩⟩, hk.2⟩)) hg hat); replace BK307 := Aside0.mk (blk_grown (bS BK307.out) hg (Kd.R_ne HO312.out BK307.out (by decide))); replace BK308 := Aside0.mk (blk_grown (bS BK308.out) hg (Kd.R_away HO312.out (fun _ hk => hk.2))); replace BK309 := Aside0.mk (blk_grown (bS BK309.out) hg (Kd.R_ne HO312.out BK309.out (by decide))); replace HB := Aside0.mk (hb); have HO315 := Aside0.mk (ho); clear HO312; clear ho hb hg hat; have hcz68_0 : w67.cell? ⟨gb307, 0, none⟩ = some (.slice A0_0 l0_0.length c0_0) := (blk_cell BK307.out 0).trans rfl; have hcz68_1 : w67.cell? ⟨gb307, 1, none⟩ = some (.bool false) := (blk_cell BK307.out 1).trans rfl; have hfz68_0 := blk_frozen BK307.out 0; have hfz68_1 := blk_frozen BK307.out 1; have hnb69 := NB308_309.out; have hnc69 := NB309_308.out; have hcz70_0 : w67.cell? ⟨gb308, 0, none⟩ = some (.string a1_0) := (blk_cell BK308.out 0).trans rfl; have hcz70_1 : w67.cell? ⟨gb308, 1, none⟩ = some (.bool a1_1) := (blk_cell BK308.out 1).trans rfl; have hcz70_2 : w67.cell? ⟨gb308, 2, none⟩ = some (.int .i64 a1_2) := (blk_cell BK308.out 2).trans rfl; have hcz70_3 : w67.cell? ⟨gb308, 3, none⟩ = some (.int .i64 a1_3) := (blk_cell BK308.out 3).trans rfl; have hcz70_4 : w67.cell? ⟨gb308, 4, none⟩ = some (.int .i64 a1_4) := (blk_cell BK308.out 4).trans rfl; have hcz70_5 : w67.cell? ⟨gb308, 5, none⟩ = some (.string a1_5) := (blk_cell BK308.out 5).trans rfl; have hfz70_0 := blk_frozen BK308.out 0; have hfz70_1 := blk_frozen BK308.out 1; have hfz70_2 := blk_frozen BK308.out 2; have hfz70_3 := blk_frozen BK308.out 3; have hfz70_4 := blk_frozen BK308.out 4; have hfz70_5 := blk_frozen BK308.out 5) | ((with_reducible refine gate_callee (f := 36) rfl ?_); refine goesL_ (some 19) rfl rfl Try.func36 (by kernel_rfl) rfl #[.agg #[.slice A0_0 l0_0.length c0_0, .bool false], .string a1_0] rfl (by (try simp only [List.map_toArray, List.map_cons, List.map_nil]); first | done | rfl | (simp only [List.length_drop, List.length_take]; rfl)) ?_; (with_reducible refine (rollcallref17_place.calls k _ _ l0_0 false a1_0 t316 _ ?side1 ?side2 A14.out).mono ?_); (case side1 => repeat (first | exact (Kd.V_reads' HO0_0.out).2.2 | (with_reducible refine Kd.C_alloc ?_ _) | (with_reducible refine Kd.C_drewN ?_ _) | (with_reducible refine Kd.C_drew ?_))); (case side2 => exact (Kd.V_reads' HO0_0.out).2.1); rintro e w71 ⟨rfl, hb⟩; refine ⟨_, rfl, ?_⟩; replace HO0_0 := Aside0.mk (Kd.V_below (vS HO0_0.out) hb); replace HO315 := Aside0.mk (Kd.R_below (rS HO315.out) hb); replace BK307 := Aside0.mk (blk_below (bS BK307.out) hb); replace BK308 := Aside0.mk (blk_below (bS BK308.out) hb); replace BK309 := Aside0.mk (blk_below (bS BK309.out) hb); replace HB := Aside0.mk (below_step (hS HB.out) hb); (try clear hb); (try clear hb2); (try clear hk); (try clear hi); obtain ⟨Ao72, co72, eo72⟩ := Kd.R_slice HO315.out; subst eo72; have hcz73_0 : w71.cell? ⟨gb309, 0, none⟩ = some (.slice none 0 0) := (blk_cell BK309.out 0).trans rfl; have hcz73_1 : w71.cell? ⟨gb309, 1, none⟩ = some (.bool false) := (blk_cell BK309.out 1).trans rfl; have hfz73_0 := blk_frozen BK309.out 0; have hfz73_1 := blk_frozen BK309.out 1))
          refine bodyPost_ret (results_cell_row rfl _ _ gb309 24 #[.slice none 0 0, .bool true] (0, 0) _ rfl (bS (blk_put (bS (blk_put (bS BK309.out) 0 _ rfl)) 1 _ rfl)) Try.underlying24 rfl (by kernel_rfl)) rfl ?_
          exact ⟨_, by first | rfl | (simp [errW_none, errW_some] <;> rfl) | (simp [*, errW_none, errW_some] <;> rfl), Kd.V_nil _ _ _ _ _, by repeat (first | (with_reducible first | exact HB.out | apply below_alloc | apply pw_below_drewN | apply below_drew1 | refine below_set ?_ GE307.out | refine below_set ?_ GE308.out | refine below_set ?_ GE309.out) | exact HB.out)⟩
    · rw [if_neg c13] at H
      exact absurd H (by simp)

-- NOT PRINTED: function 4 (rollcalllaw17_QueuePushes)

end Go.Proofs.Ythcmelchgnekpaa.PA
