-- Several texts in one, without what the law does not use (wip/tools/bundle.py).
import Derived.Test.YtmigglldahkngaaBwiceames2

section
-- Written by a program of this session (wip/tools/xprint.py), which drives the kit's print.
namespace Go.Proofs.Ytmigglldahkngaa.PA
open Go.RowKit Go.Proofs.YtmigglldahkngaaW.PrintWords Go.Proofs.YtmigglldahkngaaW.PrintLast Go.Proofs.YtmigglldahkngaaW.PrintMore
attribute [local go_sem] max2_int min2_int max_two min_two   -- for this text's walks alone
set_option linter.unusedVariables false
set_option linter.unusedSimpArgs false

/-! ### rollcallref05_Set: function 32 -/
/-! ### rollcallref17_Over: function 31 -/
/-! ### queue_Pop: function 88 -/
def queue_Pop.f (l0_0 : List (S34)) (a0_1 : Bool) : Option (ByteArray × Bool × Int × Int × Int × ByteArray × (List (S34)) × Bool × Bool) := if (l0_0.length : Int) = 0 then (some ((⟨#[]⟩ : ByteArray), false, 0, 0, 0, (⟨#[]⟩ : ByteArray), l0_0, a0_1, false)) else (if 0 < (l0_0.length : Int) then (if 1 ≤ (l0_0.length : Int) then (some ((rd_T34 l0_0 0).f0, (rd_T34 l0_0 0).f1, (rd_T34 l0_0 0).f2.f0, (rd_T34 l0_0 0).f2.f1, (rd_T34 l0_0 0).f2.f2, (rd_T34 l0_0 0).f2.f3, (l0_0.drop 1), a0_1, true)) else (none)) else (none))
set_option maxHeartbeats 8000000 in
set_option maxRecDepth 100000 in
theorem queue_Pop.calls (P0_0_ : Nat → Prop) (A0_0 : Option Addr) (c0_0 : Nat) (l0_0 : List (S34)) (a0_1 : Bool) (r1 : ByteArray) (r2 : Bool) (r3 : Int) (r4 : Int) (r5 : Int) (r6 : ByteArray) (r7 : List (S34)) (r8 : Bool) (r9 : Bool) (w : World) (hs0_0 : Kd.V k34 34 w w.heap.size (fun k_ => P0_0_ k_) (.slice A0_0 l0_0.length c0_0) l0_0) (h : queue_Pop.f l0_0 a0_1 = some (r1, r2, r3, r4, r5, r6, r7, r8, r9)) :
  Calls Try.prog 88 #[.agg #[.slice A0_0 l0_0.length c0_0, .bool a0_1]] w fun e w' => ∃ v6_ : Value, e = .returned (.tuple #[.agg #[.string r1, .bool r2, .int .i64 r3, .int .i64 r4, .int .i64 r5, .string r6], .agg #[v6_, .bool r8], .bool r9]) ∧ Kd.V k34 34 w' w.heap.size (fun k_ => (P0_0_ k_ ∨ w.heap.size ≤ k_)) v6_ r7 ∧ Below w.heap.size w w' := by
 have hu26 := Try.underlying26
 have hu34 := Try.underlying34
 have HO0_0 := Aside0.mk (show Kd.V k34 34 w w.heap.size (fun k_ => (P0_0_ k_ ∨ w.heap.size ≤ k_)) (.slice A0_0 l0_0.length c0_0) l0_0 from Kd.V_mono hs0_0 (fun k_ hk => .inl hk))
 have HB := Aside0.mk (Below.refl w.heap.size w)
 have H : (if (l0_0.length : Int) = 0 then (some ((⟨#[]⟩ : ByteArray), false, 0, 0, 0, (⟨#[]⟩ : ByteArray), l0_0, a0_1, false)) else (if 0 < (l0_0.length : Int) then (if 1 ≤ (l0_0.length : Int) then (some ((rd_T34 l0_0 0).f0, (rd_T34 l0_0 0).f1, (rd_T34 l0_0 0).f2.f0, (rd_T34 l0_0 0).f2.f1, (rd_T34 l0_0 0).f2.f2, (rd_T34 l0_0 0).f2.f3, (l0_0.drop 1), a0_1, true)) else (none)) else (none))) = some (r1, r2, r3, r4, r5, r6, r7, r8, r9) := h
 clear h
 by_cases c2 : (l0_0.length : Int) = 0
 ·rw [if_pos c2] at H
  have c2b0 : ((l0_0.length : Int) == 0) = true := beq_iff_eq.mpr c2
  have c2b1 : ((l0_0.length : Int) != 0) = false := bne_eq_false_iff_eq.mpr c2
  clear c2
  simp only [Option.some.injEq, Prod.mk.injEq] at H
  obtain ⟨rfl, rfl, rfl, rfl, rfl, rfl, rfl, rfl, rfl⟩ := H
  go_enter Try.func88, Try.ntmps88
  try go_wp2_with (first | ((with_reducible refine gate_dst (N := 1) rfl ?_); refine box_event ?hg (N := 1) ?hd (cs := #[.slice A0_0 l0_0.length c0_0, .bool a0_1]) (t := 26) ?hr ?_; (case hd => rfl); (case hg => rfl); (case hr => first | (go_simp; done) | (go_simp; rfl)); intro gb445 hg w3 hbox hb; replace HO0_0 := Aside0.mk (Kd.V_below (Kd.V_elderB (vS HO0_0.out) gb445 (Nat.le_of_eq hg.symm)) hb); have BK445 := Aside0.mk (hbox); have GW445 := Aside0.mk ((by rw [hg]; exact (below_size (hS HB.out)) : w.heap.size ≤ gb445)); have GE445 := Aside0.mk ((by rw [hg]; exact (below_size (hS HB.out)) : w.heap.size ≤ gb445)); replace HB := Aside0.mk (below_step (hS HB.out) hb); clear hb hbox hg) | ((with_reducible refine gate_dst (N := 2) rfl ?_); refine box_event ?hg (N := 2) ?hd (cs := #[.string (⟨#[]⟩ : ByteArray), .bool false, .int .i64 0, .int .i64 0, .int .i64 0, .string (⟨#[]⟩ : ByteArray)]) (t := 34) ?hr ?_; (case hd => rfl); (case hg => rfl); (case hr => first | (go_simp; done) | (go_simp; rfl)); intro gb446 hg w4 hbox hb; replace HO0_0 := Aside0.mk (Kd.V_below (Kd.V_elderB (vS HO0_0.out) gb446 (Nat.le_of_eq hg.symm)) hb); have BK446 := Aside0.mk (hbox); have GW446 := Aside0.mk ((by rw [hg]; exact (below_size (hS HB.out)) : w.heap.size ≤ gb446)); have GE446 := Aside0.mk ((by rw [hg]; exact (below_size (hS HB.out)) : w.heap.size ≤ gb446)); replace HB := Aside0.mk (below_step (hS HB.out) hb); have NB445_446 := Aside0.mk ((by rw [hg]; exact Nat.ne_of_lt (blk_lt (bS BK445.out)) : gb445 ≠ gb446)); have NB446_445 := Aside0.mk ((by rw [hg]; exact Nat.ne_of_gt (blk_lt (bS BK445.out)) : gb446 ≠ gb445)); replace BK445 := Aside0.mk (blk_below (bS BK445.out) hb); clear hb hbox hg) | ((with_reducible refine gate_dst (N := 3) rfl ?_); refine box_event ?hg (N := 3) ?hd (cs := #[.slice none 0 0, .bool false]) (t := 26) ?hr ?_; (case hd => rfl); (case hg => rfl); (case hr => first | (go_simp; done) | (go_simp; rfl)); intro gb447 hg w5 hbox hb; replace HO0_0 := Aside0.mk (Kd.V_below (Kd.V_elderB (vS HO0_0.out) gb447 (Nat.le_of_eq hg.symm)) hb); have BK447 := Aside0.mk (hbox); have GW447 := Aside0.mk ((by rw [hg]; exact (below_size (hS HB.out)) : w.heap.size ≤ gb447)); have GE447 := Aside0.mk ((by rw [hg]; exact (below_size (hS HB.out)) : w.heap.size ≤ gb447)); replace HB := Aside0.mk (below_step (hS HB.out) hb); have NB445_447 := Aside0.mk ((by rw [hg]; exact Nat.ne_of_lt (blk_lt (bS BK445.out)) : gb445 ≠ gb447)); have NB447_445 := Aside0.mk ((by rw [hg]; exact Nat.ne_of_gt (blk_lt (bS BK445.out)) : gb447 ≠ gb445)); replace BK445 := Aside0.mk (blk_below (bS BK445.out) hb); have NB446_447 := Aside0.mk ((by rw [hg]; exact Nat.ne_of_lt (blk_lt (bS BK446.out)) : gb446 ≠ gb447)); have NB447_446 := Aside0.mk ((by rw [hg]; exact Nat.ne_of_gt (blk_lt (bS BK446.out)) : gb447 ≠ gb446)); replace BK446 := Aside0.mk (blk_below (bS BK446.out) hb); clear hb hbox hg; have hnb6 := NB445_446.out; have hnc6 := NB446_445.out; have hnb7 := NB445_447.out; have hnc7 := NB447_445.out; have hcz8_0 : w5.cell? ⟨gb445, 0, none⟩ = some (.slice A0_0 l0_0.length c0_0) := (blk_cell BK445.out 0).trans rfl; have hcz8_1 : w5.cell? ⟨gb445, 1, none⟩ = some (.bool a0_1) := (blk_cell BK445.out 1).trans rfl; have hfz8_0 := blk_frozen BK445.out 0; have hfz8_1 := blk_frozen BK445.out 1))
  replace HO0_0 := Aside0.mk (Kd.V_drew HO0_0.out)
  replace BK445 := Aside0.mk (blk_drew BK445.out)
  replace BK446 := Aside0.mk (blk_drew BK446.out)
  replace BK447 := Aside0.mk (blk_drew BK447.out)
  replace HB := Aside0.mk (below_drew1 HB.out)
  refine start_ (n := 5) (S := fun w' => w'.cell? ⟨gb445, 0, none⟩ = some (.slice A0_0 l0_0.length c0_0) ∧ w'.cell? ⟨gb445, 1, none⟩ = some (.bool a0_1)) (ds := []) #[false, false, false, false, false] (by kernel_rfl) rfl rfl ⟨(blk_cell BK445.out 0).trans rfl, (blk_cell BK445.out 1).trans rfl⟩ (fun hHeld => ?_)
  generalize w5.drew = w9 at HO0_0 BK445 BK446 BK447 HB hHeld ⊢
  refine pure_ (i := 0) (N := some 10) (v := ?_) (a' := ?_) #[true, false, false, false, false] rfl rfl (by kernel_rfl) (fun _ _ _ h => h) (Or.inl ⟨by rfl, ?_⟩) ?_ ?_
  rotate_left
  ·intro w'
   go_simp
   with_reducible rfl
  rotate_left
  ·simp only [Act.put, List.setIfInBounds_toArray, List.set_cons_zero, List.set_cons_succ, i64_w, i32_w]
   rfl
  refine take_ (i := 1) (N := some 11) (v := ?_) (a' := ?_) #[true, true, false, false, false] rfl rfl (by kernel_rfl) (fun _ _ _ h => h) (Or.inl ⟨by rfl, ?_⟩) hHeld ?_ ?_
  rotate_left
  ·rintro w' ⟨s0, s1⟩
   go_simp
   with_reducible rfl
  rotate_left
  ·simp only [Act.put, List.setIfInBounds_toArray, List.set_cons_zero, List.set_cons_succ, i64_w, i32_w]
   rfl
  refine one_ (i := 2) (N := none) #[true, true, true, false, false] rfl rfl (by kernel_rfl) (by decide) (fun K hK => ?_)
  have hs10 : w9.cell? ⟨gb446, 0, none⟩ = some (.string (⟨#[]⟩ : ByteArray)) := (blk_cell BK446.out 0).trans rfl
  have hfs10 := blk_frozen BK446.out 0
  have hns10_0 := NB445_446.out
  have hns10_2 := NB447_446.out
  have hms10_0 := NB446_445.out
  have hms10_2 := NB446_447.out
  have hs11 : w9.cell? ⟨gb446, 1, none⟩ = some (.bool false) := (blk_cell BK446.out 1).trans rfl
  have hfs11 := blk_frozen BK446.out 1
  have hns11_0 := NB445_446.out
  have hns11_2 := NB447_446.out
  have hms11_0 := NB446_445.out
  have hms11_2 := NB446_447.out
  have hs12 : w9.cell? ⟨gb446, 2, none⟩ = some (.int .i64 0) := (blk_cell BK446.out 2).trans rfl
  have hfs12 := blk_frozen BK446.out 2
  have hns12_0 := NB445_446.out
  have hns12_2 := NB447_446.out
  have hms12_0 := NB446_445.out
  have hms12_2 := NB446_447.out
  have hs13 : w9.cell? ⟨gb446, 3, none⟩ = some (.int .i64 0) := (blk_cell BK446.out 3).trans rfl
  have hfs13 := blk_frozen BK446.out 3
  have hns13_0 := NB445_446.out
  have hns13_2 := NB447_446.out
  have hms13_0 := NB446_445.out
  have hms13_2 := NB446_447.out
  have hs14 : w9.cell? ⟨gb446, 4, none⟩ = some (.int .i64 0) := (blk_cell BK446.out 4).trans rfl
  have hfs14 := blk_frozen BK446.out 4
  have hns14_0 := NB445_446.out
  have hns14_2 := NB447_446.out
  have hms14_0 := NB446_445.out
  have hms14_2 := NB446_447.out
  have hs15 : w9.cell? ⟨gb446, 5, none⟩ = some (.string (⟨#[]⟩ : ByteArray)) := (blk_cell BK446.out 5).trans rfl
  have hfs15 := blk_frozen BK446.out 5
  have hns15_0 := NB445_446.out
  have hns15_2 := NB447_446.out
  have hms15_0 := NB446_445.out
  have hms15_2 := NB446_447.out
  refine skip_ (w1 := ?_) (by rfl) rfl ?_ ?_
  rotate_left
  ·go_simp
   rfl
  refine hK.out _ _ ⟨((cell_far (p := ⟨gb446, _, none⟩) NB445_446.out _).trans (((cell_far (p := ⟨gb446, _, none⟩) NB445_446.out _).trans (((cell_far (p := ⟨gb446, _, none⟩) NB445_446.out _).trans (((cell_far (p := ⟨gb446, _, none⟩) NB445_446.out _).trans (((cell_far (p := ⟨gb446, _, none⟩) NB445_446.out _).trans (((cell_far (p := ⟨gb446, _, none⟩) NB445_446.out _).trans (hHeld.1)))))))))))), ((cell_far (p := ⟨gb446, _, none⟩) NB445_446.out _).trans (((cell_far (p := ⟨gb446, _, none⟩) NB445_446.out _).trans (((cell_far (p := ⟨gb446, _, none⟩) NB445_446.out _).trans (((cell_far (p := ⟨gb446, _, none⟩) NB445_446.out _).trans (((cell_far (p := ⟨gb446, _, none⟩) NB445_446.out _).trans (((cell_far (p := ⟨gb446, _, none⟩) NB445_446.out _).trans (hHeld.2))))))))))))⟩ (fun hHeld => ?_)
  clear hK K
  clear hs10 hfs10 hns10_0 hns10_2 hms10_0 hms10_2 hs11 hfs11 hns11_0 hns11_2 hms11_0 hms11_2 hs12 hfs12 hns12_0 hns12_2 hms12_0 hms12_2 hs13 hfs13 hns13_0 hns13_2 hms13_0 hms13_2 hs14 hfs14 hns14_0 hns14_2 hms14_0 hms14_2 hs15 hfs15 hns15_0 hns15_2 hms15_0 hms15_2
  generalize hq_ : ((((((w9.setCell ⟨gb446, 0, none⟩ (.string (⟨#[]⟩ : ByteArray))).setCell ⟨gb446, 1, none⟩ (.bool false)).setCell ⟨gb446, 2, none⟩ (.int .i64 0)).setCell ⟨gb446, 3, none⟩ (.int .i64 0)).setCell ⟨gb446, 4, none⟩ (.int .i64 0)).setCell ⟨gb446, 5, none⟩ (.string (⟨#[]⟩ : ByteArray))) = w9_c at hHeld ⊢
  have z_ := @id (((((((w9.setCell ⟨gb446, 0, none⟩ (.string (⟨#[]⟩ : ByteArray))).setCell ⟨gb446, 1, none⟩ (.bool false)).setCell ⟨gb446, 2, none⟩ (.int .i64 0)).setCell ⟨gb446, 3, none⟩ (.int .i64 0)).setCell ⟨gb446, 4, none⟩ (.int .i64 0)).setCell ⟨gb446, 5, none⟩ (.string (⟨#[]⟩ : ByteArray))).heap[gb446]? = some _) (bS (blk_put (bS (blk_put (bS (blk_put (bS (blk_put (bS (blk_put (bS (blk_put (bS BK446.out) 0 _ rfl)) 1 _ rfl)) 2 _ rfl)) 3 _ rfl)) 4 _ rfl)) 5 _ rfl)); rw [hq_] at z_; replace BK446 := Aside0.mk z_; clear z_
  have z_ := @id (((((((w9.setCell ⟨gb446, 0, none⟩ (.string (⟨#[]⟩ : ByteArray))).setCell ⟨gb446, 1, none⟩ (.bool false)).setCell ⟨gb446, 2, none⟩ (.int .i64 0)).setCell ⟨gb446, 3, none⟩ (.int .i64 0)).setCell ⟨gb446, 4, none⟩ (.int .i64 0)).setCell ⟨gb446, 5, none⟩ (.string (⟨#[]⟩ : ByteArray))).heap[gb447]? = some _) (bF BK447.out NB447_446.out); rw [hq_] at z_; replace BK447 := Aside0.mk z_; clear z_
  have z_ := @id (Kd.V _ _ ((((((w9.setCell ⟨gb446, 0, none⟩ (.string (⟨#[]⟩ : ByteArray))).setCell ⟨gb446, 1, none⟩ (.bool false)).setCell ⟨gb446, 2, none⟩ (.int .i64 0)).setCell ⟨gb446, 3, none⟩ (.int .i64 0)).setCell ⟨gb446, 4, none⟩ (.int .i64 0)).setCell ⟨gb446, 5, none⟩ (.string (⟨#[]⟩ : ByteArray))) _ _ _ _) (vF (b := gb446) (Kd.V_mono HO0_0.out (fun k_ hk => (⟨hk, hk.1.2⟩ : _ ∧ k_ ≠ gb446))) (fun _ hk => hk.2)); rw [hq_] at z_; replace HO0_0 := Aside0.mk z_; clear z_
  replace HB : Aside0 (Below w.heap.size w w9_c) := ⟨by rw [← hq_]; exact (by repeat (first | (with_reducible first | exact HB.out | apply below_alloc | apply pw_below_drewN | apply below_drew1 | refine below_set ?_ GE445.out | refine below_set ?_ GE446.out | refine below_set ?_ GE447.out) | exact HB.out))⟩
  clear hq_
  refine one_ (i := 3) (N := none) #[true, true, true, true, false] rfl rfl (by kernel_rfl) (by decide) (fun K hK => ?_)
  have hs16 : w9_c.cell? ⟨gb447, 0, none⟩ = some (.slice none 0 0) := (blk_cell BK447.out 0).trans rfl
  have hfs16 := blk_frozen BK447.out 0
  have hns16_0 := NB445_447.out
  have hns16_1 := NB446_447.out
  have hms16_0 := NB447_445.out
  have hms16_1 := NB447_446.out
  have hs17 : w9_c.cell? ⟨gb447, 1, none⟩ = some (.bool false) := (blk_cell BK447.out 1).trans rfl
  have hfs17 := blk_frozen BK447.out 1
  have hns17_0 := NB445_447.out
  have hns17_1 := NB446_447.out
  have hms17_0 := NB447_445.out
  have hms17_1 := NB447_446.out
  refine skip_ (w1 := ?_) (by rfl) rfl ?_ ?_
  rotate_left
  ·go_simp
   rfl
  refine hK.out _ _ ⟨((cell_far (p := ⟨gb447, _, none⟩) NB445_447.out _).trans (((cell_far (p := ⟨gb447, _, none⟩) NB445_447.out _).trans (hHeld.1)))), ((cell_far (p := ⟨gb447, _, none⟩) NB445_447.out _).trans (((cell_far (p := ⟨gb447, _, none⟩) NB445_447.out _).trans (hHeld.2))))⟩ (fun hHeld => ?_)
  clear hK K
  refine pure_ (i := 4) (N := some 4) (v := ?_) (a' := ?_) #[true, true, true, true, true] rfl rfl (by kernel_rfl) (fun _ _ _ h => h) (Or.inl ⟨by rfl, ?_⟩) ?_ ?_
  rotate_left
  ·intro w'
   go_simp
   with_reducible rfl
  rotate_left
  ·simp only [Act.put, List.setIfInBounds_toArray, List.set_cons_zero, List.set_cons_succ, i64_w, i32_w]
   rfl
  refine done_ (by kernel_rfl) ?_
  try go_wp2
  refine bodyPost_ret (results_list (rs := [.cell 2 34, .cell 3 26, .tmp 4]) rfl (by simp) (.cell gb446 34 #[.string (⟨#[]⟩ : ByteArray), .bool false, .int .i64 0, .int .i64 0, .int .i64 0, .string (⟨#[]⟩ : ByteArray)] (0, 0) _ rfl (bF BK446.out NB446_447.out) Try.underlying34 rfl (by kernel_rfl) (.cell gb447 26 #[.slice A0_0 l0_0.length c0_0, .bool a0_1] (0, 0) _ rfl (bS (blk_put (bS (blk_put BK447.out 0 _ rfl)) 1 _ rfl)) Try.underlying26 rfl (by kernel_rfl) (.tmp .nil)))) rfl ?_
  exact ⟨_, by first | rfl | (simp [errW_none, errW_some] <;> rfl) | (simp [*, errW_none, errW_some] <;> rfl), by (with_reducible repeat (first | apply Kd.V_alloc | apply Kd.V_drewN | apply Kd.V_drew)); exact Kd.V_mono (vF (b := gb447) (Kd.V_mono HO0_0.out (fun k_ hk => (⟨hk, hk.1.2⟩ : _ ∧ k_ ≠ gb447))) (fun _ hk => hk.2)) (fun _ hk => hk.1.1.1.1.1), by repeat (first | (with_reducible first | exact HB.out | apply below_alloc | apply pw_below_drewN | apply below_drew1 | refine below_set ?_ GE445.out | refine below_set ?_ GE446.out | refine below_set ?_ GE447.out) | exact HB.out)⟩
 ·rw [if_neg c2] at H
  have c2b0 : ((l0_0.length : Int) == 0) = false := beq_eq_false_iff_ne.mpr c2
  have c2b1 : ((l0_0.length : Int) != 0) = true := bne_iff_ne.mpr c2
  have c2b2 : ¬ (l0_0 = []) := fun h_ => c2 (by rw [h_]; rfl)
  by_cases c18 : 0 < (l0_0.length : Int)
  ·rw [if_pos c18] at H
   have c18b0 : decide (0 < (l0_0.length : Int)) = true := decide_eq_true c18
   have c18b1 : decide (0 < l0_0.length) = true := decide_eq_true (by omega)
   clear c18
   by_cases c19 : 1 ≤ (l0_0.length : Int)
   ·rw [if_pos c19] at H
    have c19b0 := eq_true c19
    have c19b1 : decide (1 ≤ (l0_0.length : Int)) = true := decide_eq_true c19
    clear c19
    obtain ⟨y450, hy450⟩ : ∃ y_ : List (S34), y_ = (l0_0.drop 1) := ⟨_, rfl⟩
    replace H : (some ((rd_T34 l0_0 0).f0, (rd_T34 l0_0 0).f1, (rd_T34 l0_0 0).f2.f0, (rd_T34 l0_0 0).f2.f1, (rd_T34 l0_0 0).f2.f2, (rd_T34 l0_0 0).f2.f3, y450, a0_1, true)) = some (r1, r2, r3, r4, r5, r6, r7, r8, r9) := by first | (rw [hy450]; with_reducible exact H) | (have H2_ := (Option.bind_some _ _).symm.trans H; rw [hy450]; with_reducible exact H2_) | (have H2_ := (Option.bind_some _ _).symm.trans H; with_reducible exact H2_) | with_reducible exact H | (rw [hy450]; exact H) | exact H
    have Ny450 := Aside0.mk hy450
    clear hy450
    simp only [Option.some.injEq, Prod.mk.injEq] at H
    obtain ⟨rfl, rfl, rfl, rfl, rfl, rfl, rfl, rfl, rfl⟩ := H
    go_enter Try.func88, Try.ntmps88
    try go_wp2_with (first | ((with_reducible refine gate_dst (N := 1) rfl ?_); refine box_event ?hg (N := 1) ?hd (cs := #[.slice A0_0 l0_0.length c0_0, .bool a0_1]) (t := 26) ?hr ?_; (case hd => rfl); (case hg => rfl); (case hr => first | (go_simp; done) | (go_simp; rfl)); intro gb445 hg w20 hbox hb; replace HO0_0 := Aside0.mk (Kd.V_below (Kd.V_elderB (vS HO0_0.out) gb445 (Nat.le_of_eq hg.symm)) hb); have BK445 := Aside0.mk (hbox); have GW445 := Aside0.mk ((by rw [hg]; exact (below_size (hS HB.out)) : w.heap.size ≤ gb445)); have GE445 := Aside0.mk ((by rw [hg]; exact (below_size (hS HB.out)) : w.heap.size ≤ gb445)); replace HB := Aside0.mk (below_step (hS HB.out) hb); clear hb hbox hg) | ((with_reducible refine gate_dst (N := 2) rfl ?_); refine box_event ?hg (N := 2) ?hd (cs := #[.string (⟨#[]⟩ : ByteArray), .bool false, .int .i64 0, .int .i64 0, .int .i64 0, .string (⟨#[]⟩ : ByteArray)]) (t := 34) ?hr ?_; (case hd => rfl); (case hg => rfl); (case hr => first | (go_simp; done) | (go_simp; rfl)); intro gb446 hg w21 hbox hb; replace HO0_0 := Aside0.mk (Kd.V_below (Kd.V_elderB (vS HO0_0.out) gb446 (Nat.le_of_eq hg.symm)) hb); have BK446 := Aside0.mk (hbox); have GW446 := Aside0.mk ((by rw [hg]; exact (below_size (hS HB.out)) : w.heap.size ≤ gb446)); have GE446 := Aside0.mk ((by rw [hg]; exact (below_size (hS HB.out)) : w.heap.size ≤ gb446)); replace HB := Aside0.mk (below_step (hS HB.out) hb); have NB445_446 := Aside0.mk ((by rw [hg]; exact Nat.ne_of_lt (blk_lt (bS BK445.out)) : gb445 ≠ gb446)); have NB446_445 := Aside0.mk ((by rw [hg]; exact Nat.ne_of_gt (blk_lt (bS BK445.out)) : gb446 ≠ gb445)); replace BK445 := Aside0.mk (blk_below (bS BK445.out) hb); clear hb hbox hg) | ((with_reducible refine gate_dst (N := 3) rfl ?_); refine box_event ?hg (N := 3) ?hd (cs := #[.slice none 0 0, .bool false]) (t := 26) ?hr ?_; (case hd => rfl); (case hg => rfl); (case hr => first | (go_simp; done) | (go_simp; rfl)); intro gb447 hg w22 hbox hb; replace HO0_0 := Aside0.mk (Kd.V_below (Kd.V_elderB (vS HO0_0.out) gb447 (Nat.le_of_eq hg.symm)) hb); have BK447 := Aside0.mk (hbox); have GW447 := Aside0.mk ((by rw [hg]; exact (below_size (hS HB.out)) : w.heap.size ≤ gb447)); have GE447 := Aside0.mk ((by rw [hg]; exact (below_size (hS HB.out)) : w.heap.size ≤ gb447)); replace HB := Aside0.mk (below_step (hS HB.out) hb); have NB445_447 := Aside0.mk ((by rw [hg]; exact Nat.ne_of_lt (blk_lt (bS BK445.out)) : gb445 ≠ gb447)); have NB447_445 := Aside0.mk ((by rw [hg]; exact Nat.ne_of_gt (blk_lt (bS BK445.out)) : gb447 ≠ gb445)); replace BK445 := Aside0.mk (blk_below (bS BK445.out) hb); have NB446_447 := Aside0.mk ((by rw [hg]; exact Nat.ne_of_lt (blk_lt (bS BK446.out)) : gb446 ≠ gb447)); have NB447_446 := Aside0.mk ((by rw [hg]; exact Nat.ne_of_gt (blk_lt (bS BK446.out)) : gb447 ≠ gb446)); replace BK446 := Aside0.mk (blk_below (bS BK446.out) hb); clear hb hbox hg; have hnb23 := NB445_446.out; have hnc23 := NB446_445.out; have hnb24 := NB445_447.out; have hnc24 := NB447_445.out; have hcz25_0 : w22.cell? ⟨gb445, 0, none⟩ = some (.slice A0_0 l0_0.length c0_0) := (blk_cell BK445.out 0).trans rfl; have hcz25_1 : w22.cell? ⟨gb445, 1, none⟩ = some (.bool a0_1) := (blk_cell BK445.out 1).trans rfl; have hfz25_0 := blk_frozen BK445.out 0; have hfz25_1 := blk_frozen BK445.out 1; have p448 : 0 ≤ (0 : Int) := (by omega); have q448 : 0 < (l0_0.length : Int) := of_decide_eq_true (by first | (with_reducible assumption) | assumption); obtain ⟨ad448, e448, hx448_0, hx448_1, hx448_2, hx448_3, hx448_4, hx448_5⟩ := at_T34 (Kd.V_reads' HO0_0.out).2.2 0 p448 q448; cases e448; have qi448 : (0 < l0_0.length) = True := eq_true (by omega); (try rw [show ((0 : Int)).toNat = 0 from rfl] at hx448_0); (try rw [show 0 * 6 = 0 from rfl] at hx448_0); (try rw [Addr.add_zero'] at hx448_0); (try rw [show ((0 : Int)).toNat = 0 from rfl] at hx448_1); (try rw [show 0 * 6 = 0 from rfl] at hx448_1); (try rw [Addr.add_zero'] at hx448_1); (try rw [show ((0 : Int)).toNat = 0 from rfl] at hx448_2); (try rw [show 0 * 6 = 0 from rfl] at hx448_2); (try rw [Addr.add_zero'] at hx448_2); (try rw [show ((0 : Int)).toNat = 0 from rfl] at hx448_3); (try rw [show 0 * 6 = 0 from rfl] at hx448_3); (try rw [Addr.add_zero'] at hx448_3); (try rw [show ((0 : Int)).toNat = 0 from rfl] at hx448_4); (try rw [show 0 * 6 = 0 from rfl] at hx448_4); (try rw [Addr.add_zero'] at hx448_4); (try rw [show ((0 : Int)).toNat = 0 from rfl] at hx448_5); (try rw [show 0 * 6 = 0 from rfl] at hx448_5); (try rw [Addr.add_zero'] at hx448_5); replace p448 := eq_true p448; replace q448 := eq_true q448) | ((with_reducible refine gate_dst (N := 5) rfl ?_); refine box_event ?hg (N := 5) ?hd (cs := #[.string (⟨#[]⟩ : ByteArray), .bool false, .int .i64 0, .int .i64 0, .int .i64 0, .string (⟨#[]⟩ : ByteArray)]) (t := 34) ?hr ?_; (case hd => rfl); (case hg => rfl); (case hr => first | (go_simp; done) | (go_simp; rfl)); intro gb449 hg w26 hbox hb; replace HO0_0 := Aside0.mk (Kd.V_below (Kd.V_elderB (vS HO0_0.out) gb449 (Nat.le_of_eq hg.symm)) hb); have BK449 := Aside0.mk (hbox); have GW449 := Aside0.mk ((by rw [hg]; exact (below_size (hS HB.out)) : w.heap.size ≤ gb449)); have GE449 := Aside0.mk ((by rw [hg]; exact (below_size (hS HB.out)) : w.heap.size ≤ gb449)); replace HB := Aside0.mk (below_step (hS HB.out) hb); have NB445_449 := Aside0.mk ((by rw [hg]; exact Nat.ne_of_lt (blk_lt (bS BK445.out)) : gb445 ≠ gb449)); have NB449_445 := Aside0.mk ((by rw [hg]; exact Nat.ne_of_gt (blk_lt (bS BK445.out)) : gb449 ≠ gb445)); replace BK445 := Aside0.mk (blk_below (bS BK445.out) hb); have NB446_449 := Aside0.mk ((by rw [hg]; exact Nat.ne_of_lt (blk_lt (bS BK446.out)) : gb446 ≠ gb449)); have NB449_446 := Aside0.mk ((by rw [hg]; exact Nat.ne_of_gt (blk_lt (bS BK446.out)) : gb449 ≠ gb446)); replace BK446 := Aside0.mk (blk_below (bS BK446.out) hb); have NB447_449 := Aside0.mk ((by rw [hg]; exact Nat.ne_of_lt (blk_lt (bS BK447.out)) : gb447 ≠ gb449)); have NB449_447 := Aside0.mk ((by rw [hg]; exact Nat.ne_of_gt (blk_lt (bS BK447.out)) : gb449 ≠ gb447)); replace BK447 := Aside0.mk (blk_below (bS BK447.out) hb); clear hb hbox hg; have hnb27 := NB449_445.out; have hnc27 := NB445_449.out; have hnb28 := NB449_446.out; have hnc28 := NB446_449.out; have hnb29 := NB449_447.out; have hnc29 := NB447_449.out; have hcz30_0 : w26.cell? ⟨gb449, 0, none⟩ = some (.string (⟨#[]⟩ : ByteArray)) := (blk_cell BK449.out 0).trans rfl; have hcz30_1 : w26.cell? ⟨gb449, 1, none⟩ = some (.bool false) := (blk_cell BK449.out 1).trans rfl; have hcz30_2 : w26.cell? ⟨gb449, 2, none⟩ = some (.int .i64 0) := (blk_cell BK449.out 2).trans rfl; have hcz30_3 : w26.cell? ⟨gb449, 3, none⟩ = some (.int .i64 0) := (blk_cell BK449.out 3).trans rfl; have hcz30_4 : w26.cell? ⟨gb449, 4, none⟩ = some (.int .i64 0) := (blk_cell BK449.out 4).trans rfl; have hcz30_5 : w26.cell? ⟨gb449, 5, none⟩ = some (.string (⟨#[]⟩ : ByteArray)) := (blk_cell BK449.out 5).trans rfl; have hfz30_0 := blk_frozen BK449.out 0; have hfz30_1 := blk_frozen BK449.out 1; have hfz30_2 := blk_frozen BK449.out 2; have hfz30_3 := blk_frozen BK449.out 3; have hfz30_4 := blk_frozen BK449.out 4; have hfz30_5 := blk_frozen BK449.out 5) | ((with_reducible refine gate_store (t := 34) (p := 5) rfl ?_); refine store_event (t := 34) (p := 5) (v := ?vo_w31) (w1 := ((((((w26.setCell ⟨gb449, 0, none⟩ (.string ((rd_T34 l0_0 0).f0))).setCell ⟨gb449, 1, none⟩ (.bool ((rd_T34 l0_0 0).f1))).setCell ⟨gb449, 2, none⟩ (.int .i64 ((rd_T34 l0_0 0).f2.f0))).setCell ⟨gb449, 3, none⟩ (.int .i64 ((rd_T34 l0_0 0).f2.f1))).setCell ⟨gb449, 4, none⟩ (.int .i64 ((rd_T34 l0_0 0).f2.f2))).setCell ⟨gb449, 5, none⟩ (.string ((rd_T34 l0_0 0).f2.f3)))) ?hg ?ho ?hn ?hr ?_; (case ho => rfl); (case hg => rfl); (case hn => rfl); (case hr => first | (go_simp; done) | (go_simp; rfl)); intro w31 hw; replace HO0_0 : Aside0 (Kd.V k34 34 w31 w.heap.size (fun k_ => (P0_0_ k_ ∨ w.heap.size ≤ k_) ∧ k_ ≠ gb445 ∧ k_ ≠ gb446 ∧ k_ ≠ gb447 ∧ k_ ≠ gb449) (.slice (some ad448) l0_0.length c0_0) l0_0) := ⟨(by rw [hw]; exact (by (with_reducible repeat (first | apply Kd.V_alloc | apply Kd.V_drewN | apply Kd.V_drew)); exact Kd.V_mono (vF (b := gb449) (Kd.V_mono HO0_0.out (fun k_ hk => (⟨hk, hk.2⟩ : _ ∧ k_ ≠ gb449))) (fun _ hk => hk.2)) (fun _ hk => ⟨hk.1.1.1.1.1, ⟨hk.1.1.1.1.2, ⟨hk.1.1.1.2, ⟨hk.1.1.2, hk.1.2⟩⟩⟩⟩)))⟩; replace BK445 : Aside0 (w31.heap[gb445]? = some (.cells #[.slice (some ad448) l0_0.length c0_0, .bool a0_1] 26 (0, 0))) := ⟨(by rw [hw]; exact (bF (BK445.out) NB445_449.out))⟩; replace BK446 : Aside0 (w31.heap[gb446]? = some (.cells #[.string (⟨#[]⟩ : ByteArray), .bool false, .int .i64 0, .int .i64 0, .int .i64 0, .string (⟨#[]⟩ : ByteArray)] 34 (0, 0))) := ⟨(by rw [hw]; exact (bF (BK446.out) NB446_449.out))⟩; replace BK447 : Aside0 (w31.heap[gb447]? = some (.cells #[.slice none 0 0, .bool false] 26 (0, 0))) := ⟨(by rw [hw]; exact (bF (BK447.out) NB447_449.out))⟩; replace BK449 : Aside0 (w31.heap[gb449]? = some (.cells #[.string ((rd_T34 l0_0 0).f0), .bool ((rd_T34 l0_0 0).f1), .int .i64 ((rd_T34 l0_0 0).f2.f0), .int .i64 ((rd_T34 l0_0 0).f2.f1), .int .i64 ((rd_T34 l0_0 0).f2.f2), .string ((rd_T34 l0_0 0).f2.f3)] 34 (0, 0))) := ⟨(by rw [hw]; exact (bS (blk_put (bS (blk_put (bS (blk_put (bS (blk_put (bS (blk_put (bS (blk_put (bS BK449.out) 0 _ rfl)) 1 _ rfl)) 2 _ rfl)) 3 _ rfl)) 4 _ rfl)) 5 _ rfl)))⟩; replace HB : Aside0 (Below w.heap.size w w31) := ⟨(by rw [hw]; exact (hF HB.out GE449.out))⟩; clear hw; have hcz32_0 : w31.cell? ⟨gb445, 0, none⟩ = some (.slice (some ad448) l0_0.length c0_0) := (blk_cell BK445.out 0).trans rfl; have hcz32_1 : w31.cell? ⟨gb445, 1, none⟩ = some (.bool a0_1) := (blk_cell BK445.out 1).trans rfl; have hfz32_0 := blk_frozen BK445.out 0; have hfz32_1 := blk_frozen BK445.out 1; have q33 : (1 : Int) ≤ ((l0_0.length : Int) : Int) := of_decide_eq_true (by first | (with_reducible assumption) | assumption); obtain ⟨i033, hi033, _, hsz33, _⟩ := info_parts info34; have hroom33 : l0_0.length ≤ c0_0 := (Kd.V_reads' HO0_0.out).2.1; have hC33 : Kd.F k34 _ _ (some ad448) l0_0.length l0_0 := (Kd.V_at (base := w.heap.size) HO0_0.out).2.2; have hcut33 := cut_from (P := Try.prog) 24 34 .i64 Try.underlying24 hi033 6 hsz33 (some ad448) l0_0.length c0_0 1 (by omega) q33; have hr33 := Kd.F_cut (m := (1 : Int).toNat) (c := c0_0) hC33 (by omega) hroom33; obtain ⟨A33, hA33⟩ : ∃ A1, A1 = (if c0_0 = (1 : Int).toNat then (some ad448) else ((some ad448) : Option Addr).map (·.add ((1 : Int).toNat * 6))) := ⟨_, rfl⟩; obtain ⟨c33, hc33⟩ : ∃ c1, c1 = c0_0 - (1 : Int).toNat := ⟨_, rfl⟩; have hy33 : y450.length = l0_0.length - (1 : Int).toNat := (by rw [Ny450.out, List.length_drop] <;> omega); rw [show (l0_0).drop (1 : Int).toNat = y450 from Ny450.out.symm] at hr33; replace hr33 : Kd.F k34 _ _ A33 y450.length y450 := (by rw [hA33]; exact hr33); rw [← hy33, ← hA33, ← hc33] at hcut33; have HO454 := Aside0.mk (show Kd.V k34 34 _ w.heap.size _ (.slice A33 y450.length c33) y450 from Kd.V_mk (by rw [hy33, hc33]; exact Nat.sub_le_sub_right hroom33 _) hr33); have HC454 := Aside0.mk (show y450.length ≤ c33 from by rw [hy33, hc33]; exact Nat.sub_le_sub_right hroom33 _); clear hr33 hC33 hroom33 hi033 hsz33 hc33; have KY33 := Aside0.mk hy33; have KA33 := Aside0.mk hA33; clear hy33 hA33; replace q33 := eq_true q33))
    have n0_ : Aside0 (Kd.V k34 34 (w31.setCell ⟨gb445, 0, none⟩ (.slice A33 y450.length c33)) w.heap.size (fun k_ => (P0_0_ k_ ∨ w.heap.size ≤ k_) ∧ k_ ≠ gb445 ∧ k_ ≠ gb446 ∧ k_ ≠ gb447 ∧ k_ ≠ gb449) (.slice (some ad448) l0_0.length c0_0) l0_0) := ⟨by (with_reducible repeat (first | apply Kd.V_alloc | apply Kd.V_drewN | apply Kd.V_drew)); exact Kd.V_mono (vF (b := gb445) (Kd.V_mono HO0_0.out (fun k_ hk => (⟨hk, hk.2.1⟩ : _ ∧ k_ ≠ gb445))) (fun _ hk => hk.2)) (fun _ hk => ⟨hk.1.1, ⟨hk.1.2.1, ⟨hk.1.2.2.1, ⟨hk.1.2.2.2.1, hk.1.2.2.2.2⟩⟩⟩⟩)⟩
    have n1_ : Aside0 (Kd.V k34 34 (w31.setCell ⟨gb445, 0, none⟩ (.slice A33 y450.length c33)) w.heap.size (fun k_ => (P0_0_ k_ ∨ w.heap.size ≤ k_) ∧ k_ ≠ gb445 ∧ k_ ≠ gb446 ∧ k_ ≠ gb447 ∧ k_ ≠ gb449) (.slice A33 y450.length c33) y450) := ⟨by (with_reducible repeat (first | apply Kd.V_alloc | apply Kd.V_drewN | apply Kd.V_drew)); exact Kd.V_mono (vF (b := gb445) (Kd.V_mono HO454.out (fun k_ hk => (⟨hk, hk.2.1⟩ : _ ∧ k_ ≠ gb445))) (fun _ hk => hk.2)) (fun _ hk => ⟨hk.1.1, ⟨hk.1.2.1, ⟨hk.1.2.2.1, ⟨hk.1.2.2.2.1, hk.1.2.2.2.2⟩⟩⟩⟩)⟩
    have n2_ : Aside0 ((w31.setCell ⟨gb445, 0, none⟩ (.slice A33 y450.length c33)).heap[gb445]? = some (.cells #[.slice A33 y450.length c33, .bool a0_1] 26 (0, 0))) := ⟨by refine bS ?_; refine blk_put (cs := #[.slice (some ad448) l0_0.length c0_0, .bool a0_1]) ?_ 0 _ rfl; refine bS ?_; exact BK445.out⟩
    have n3_ : Aside0 ((w31.setCell ⟨gb445, 0, none⟩ (.slice A33 y450.length c33)).heap[gb446]? = some (.cells #[.string (⟨#[]⟩ : ByteArray), .bool false, .int .i64 0, .int .i64 0, .int .i64 0, .string (⟨#[]⟩ : ByteArray)] 34 (0, 0))) := ⟨bF (BK446.out) NB446_445.out⟩
    have n4_ : Aside0 ((w31.setCell ⟨gb445, 0, none⟩ (.slice A33 y450.length c33)).heap[gb447]? = some (.cells #[.slice none 0 0, .bool false] 26 (0, 0))) := ⟨bF (BK447.out) NB447_445.out⟩
    have n5_ : Aside0 ((w31.setCell ⟨gb445, 0, none⟩ (.slice A33 y450.length c33)).heap[gb449]? = some (.cells #[.string ((rd_T34 l0_0 0).f0), .bool ((rd_T34 l0_0 0).f1), .int .i64 ((rd_T34 l0_0 0).f2.f0), .int .i64 ((rd_T34 l0_0 0).f2.f1), .int .i64 ((rd_T34 l0_0 0).f2.f2), .string ((rd_T34 l0_0 0).f2.f3)] 34 (0, 0))) := ⟨bF (BK449.out) NB449_445.out⟩
    have n6_ : Aside0 (Below w.heap.size w (w31.setCell ⟨gb445, 0, none⟩ (.slice A33 y450.length c33))) := ⟨by repeat (first | (with_reducible first | exact HB.out | apply below_alloc | apply pw_below_drewN | apply below_drew1 | refine below_set ?_ GE445.out | refine below_set ?_ GE446.out | refine below_set ?_ GE447.out | refine below_set ?_ GE449.out) | exact HB.out)⟩
    (try clear HO0_0)
    (try clear HO454)
    (try clear BK445)
    (try clear BK446)
    (try clear BK447)
    (try clear BK449)
    (try clear HB)
    generalize (w31.setCell ⟨gb445, 0, none⟩ (.slice A33 y450.length c33)) = w34 at n0_ n1_ n2_ n3_ n4_ n5_ n6_ ⊢
    have HO0_0 := n0_
    have HO454 := n1_
    have BK445 := n2_
    have BK446 := n3_
    have BK447 := n4_
    have BK449 := n5_
    have HB := n6_
    clear n0_ n1_ n2_ n3_ n4_ n5_ n6_
    replace HO0_0 := Aside0.mk (Kd.V_drew HO0_0.out)
    replace HO454 := Aside0.mk (Kd.V_drew HO454.out)
    replace BK445 := Aside0.mk (blk_drew BK445.out)
    replace BK446 := Aside0.mk (blk_drew BK446.out)
    replace BK447 := Aside0.mk (blk_drew BK447.out)
    replace BK449 := Aside0.mk (blk_drew BK449.out)
    replace HB := Aside0.mk (below_drew1 HB.out)
    refine start_ (n := 5) (S := fun w' => w'.cell? ⟨gb449, 0, none⟩ = some (.string ((rd_T34 l0_0 0).f0)) ∧ w'.cell? ⟨gb449, 1, none⟩ = some (.bool ((rd_T34 l0_0 0).f1)) ∧ w'.cell? ⟨gb449, 2, none⟩ = some (.int .i64 ((rd_T34 l0_0 0).f2.f0)) ∧ w'.cell? ⟨gb449, 3, none⟩ = some (.int .i64 ((rd_T34 l0_0 0).f2.f1)) ∧ w'.cell? ⟨gb449, 4, none⟩ = some (.int .i64 ((rd_T34 l0_0 0).f2.f2)) ∧ w'.cell? ⟨gb449, 5, none⟩ = some (.string ((rd_T34 l0_0 0).f2.f3)) ∧ w'.cell? ⟨gb445, 0, none⟩ = some (.slice A33 y450.length c33) ∧ w'.cell? ⟨gb445, 1, none⟩ = some (.bool a0_1)) (ds := []) #[false, false, false, false, false] (by kernel_rfl) rfl rfl ⟨(blk_cell BK449.out 0).trans rfl, (blk_cell BK449.out 1).trans rfl, (blk_cell BK449.out 2).trans rfl, (blk_cell BK449.out 3).trans rfl, (blk_cell BK449.out 4).trans rfl, (blk_cell BK449.out 5).trans rfl, (blk_cell BK445.out 0).trans rfl, (blk_cell BK445.out 1).trans rfl⟩ (fun hHeld => ?_)
    generalize w34.drew = w35 at HO0_0 HO454 BK445 BK446 BK447 BK449 HB hHeld ⊢
    refine take_ (i := 0) (N := some 20) (v := ?_) (a' := ?_) #[true, false, false, false, false] rfl rfl (by kernel_rfl) (fun _ _ _ h => h) (Or.inl ⟨by rfl, ?_⟩) hHeld ?_ ?_
    rotate_left
    ·rintro w' ⟨s0, s1, s2, s3, s4, s5, s6, s7⟩
     go_simp
     with_reducible rfl
    rotate_left
    ·simp only [Act.put, List.setIfInBounds_toArray, List.set_cons_zero, List.set_cons_succ, i64_w, i32_w]
     rfl
    refine take_ (i := 1) (N := some 21) (v := ?_) (a' := ?_) #[true, true, false, false, false] rfl rfl (by kernel_rfl) (fun _ _ _ h => h) (Or.inl ⟨by rfl, ?_⟩) hHeld ?_ ?_
    rotate_left
    ·rintro w' ⟨s0, s1, s2, s3, s4, s5, s6, s7⟩
     go_simp
     with_reducible rfl
    rotate_left
    ·simp only [Act.put, List.setIfInBounds_toArray, List.set_cons_zero, List.set_cons_succ, i64_w, i32_w]
     rfl
    refine one_ (i := 2) (N := none) #[true, true, true, false, false] rfl rfl (by kernel_rfl) (by decide) (fun K hK => ?_)
    have hs36 : w35.cell? ⟨gb446, 0, none⟩ = some (.string (⟨#[]⟩ : ByteArray)) := (blk_cell BK446.out 0).trans rfl
    have hfs36 := blk_frozen BK446.out 0
    have hns36_0 := NB445_446.out
    have hns36_2 := NB447_446.out
    have hns36_3 := NB449_446.out
    have hms36_0 := NB446_445.out
    have hms36_2 := NB446_447.out
    have hms36_3 := NB446_449.out
    have hs37 : w35.cell? ⟨gb446, 1, none⟩ = some (.bool false) := (blk_cell BK446.out 1).trans rfl
    have hfs37 := blk_frozen BK446.out 1
    have hns37_0 := NB445_446.out
    have hns37_2 := NB447_446.out
    have hns37_3 := NB449_446.out
    have hms37_0 := NB446_445.out
    have hms37_2 := NB446_447.out
    have hms37_3 := NB446_449.out
    have hs38 : w35.cell? ⟨gb446, 2, none⟩ = some (.int .i64 0) := (blk_cell BK446.out 2).trans rfl
    have hfs38 := blk_frozen BK446.out 2
    have hns38_0 := NB445_446.out
    have hns38_2 := NB447_446.out
    have hns38_3 := NB449_446.out
    have hms38_0 := NB446_445.out
    have hms38_2 := NB446_447.out
    have hms38_3 := NB446_449.out
    have hs39 : w35.cell? ⟨gb446, 3, none⟩ = some (.int .i64 0) := (blk_cell BK446.out 3).trans rfl
    have hfs39 := blk_frozen BK446.out 3
    have hns39_0 := NB445_446.out
    have hns39_2 := NB447_446.out
    have hns39_3 := NB449_446.out
    have hms39_0 := NB446_445.out
    have hms39_2 := NB446_447.out
    have hms39_3 := NB446_449.out
    have hs40 : w35.cell? ⟨gb446, 4, none⟩ = some (.int .i64 0) := (blk_cell BK446.out 4).trans rfl
    have hfs40 := blk_frozen BK446.out 4
    have hns40_0 := NB445_446.out
    have hns40_2 := NB447_446.out
    have hns40_3 := NB449_446.out
    have hms40_0 := NB446_445.out
    have hms40_2 := NB446_447.out
    have hms40_3 := NB446_449.out
    have hs41 : w35.cell? ⟨gb446, 5, none⟩ = some (.string (⟨#[]⟩ : ByteArray)) := (blk_cell BK446.out 5).trans rfl
    have hfs41 := blk_frozen BK446.out 5
    have hns41_0 := NB445_446.out
    have hns41_2 := NB447_446.out
    have hns41_3 := NB449_446.out
    have hms41_0 := NB446_445.out
    have hms41_2 := NB446_447.out
    have hms41_3 := NB446_449.out
    refine skip_ (w1 := ?_) (by rfl) rfl ?_ ?_
    rotate_left
    ·go_simp
     rfl
    refine hK.out _ _ ⟨((cell_far (p := ⟨gb446, _, none⟩) NB449_446.out _).trans (((cell_far (p := ⟨gb446, _, none⟩) NB449_446.out _).trans (((cell_far (p := ⟨gb446, _, none⟩) NB449_446.out _).trans (((cell_far (p := ⟨gb446, _, none⟩) NB449_446.out _).trans (((cell_far (p := ⟨gb446, _, none⟩) NB449_446.out _).trans (((cell_far (p := ⟨gb446, _, none⟩) NB449_446.out _).trans (hHeld.1)))))))))))), ((cell_far (p := ⟨gb446, _, none⟩) NB449_446.out _).trans (((cell_far (p := ⟨gb446, _, none⟩) NB449_446.out _).trans (((cell_far (p := ⟨gb446, _, none⟩) NB449_446.out _).trans (((cell_far (p := ⟨gb446, _, none⟩) NB449_446.out _).trans (((cell_far (p := ⟨gb446, _, none⟩) NB449_446.out _).trans (((cell_far (p := ⟨gb446, _, none⟩) NB449_446.out _).trans (hHeld.2.1)))))))))))), ((cell_far (p := ⟨gb446, _, none⟩) NB449_446.out _).trans (((cell_far (p := ⟨gb446, _, none⟩) NB449_446.out _).trans (((cell_far (p := ⟨gb446, _, none⟩) NB449_446.out _).trans (((cell_far (p := ⟨gb446, _, none⟩) NB449_446.out _).trans (((cell_far (p := ⟨gb446, _, none⟩) NB449_446.out _).trans (((cell_far (p := ⟨gb446, _, none⟩) NB449_446.out _).trans (hHeld.2.2.1)))))))))))), ((cell_far (p := ⟨gb446, _, none⟩) NB449_446.out _).trans (((cell_far (p := ⟨gb446, _, none⟩) NB449_446.out _).trans (((cell_far (p := ⟨gb446, _, none⟩) NB449_446.out _).trans (((cell_far (p := ⟨gb446, _, none⟩) NB449_446.out _).trans (((cell_far (p := ⟨gb446, _, none⟩) NB449_446.out _).trans (((cell_far (p := ⟨gb446, _, none⟩) NB449_446.out _).trans (hHeld.2.2.2.1)))))))))))), ((cell_far (p := ⟨gb446, _, none⟩) NB449_446.out _).trans (((cell_far (p := ⟨gb446, _, none⟩) NB449_446.out _).trans (((cell_far (p := ⟨gb446, _, none⟩) NB449_446.out _).trans (((cell_far (p := ⟨gb446, _, none⟩) NB449_446.out _).trans (((cell_far (p := ⟨gb446, _, none⟩) NB449_446.out _).trans (((cell_far (p := ⟨gb446, _, none⟩) NB449_446.out _).trans (hHeld.2.2.2.2.1)))))))))))), ((cell_far (p := ⟨gb446, _, none⟩) NB449_446.out _).trans (((cell_far (p := ⟨gb446, _, none⟩) NB449_446.out _).trans (((cell_far (p := ⟨gb446, _, none⟩) NB449_446.out _).trans (((cell_far (p := ⟨gb446, _, none⟩) NB449_446.out _).trans (((cell_far (p := ⟨gb446, _, none⟩) NB449_446.out _).trans (((cell_far (p := ⟨gb446, _, none⟩) NB449_446.out _).trans (hHeld.2.2.2.2.2.1)))))))))))), ((cell_far (p := ⟨gb446, _, none⟩) NB445_446.out _).trans (((cell_far (p := ⟨gb446, _, none⟩) NB445_446.out _).trans (((cell_far (p := ⟨gb446, _, none⟩) NB445_446.out _).trans (((cell_far (p := ⟨gb446, _, none⟩) NB445_446.out _).trans (((cell_far (p := ⟨gb446, _, none⟩) NB445_446.out _).trans (((cell_far (p := ⟨gb446, _, none⟩) NB445_446.out _).trans (hHeld.2.2.2.2.2.2.1)))))))))))), ((cell_far (p := ⟨gb446, _, none⟩) NB445_446.out _).trans (((cell_far (p := ⟨gb446, _, none⟩) NB445_446.out _).trans (((cell_far (p := ⟨gb446, _, none⟩) NB445_446.out _).trans (((cell_far (p := ⟨gb446, _, none⟩) NB445_446.out _).trans (((cell_far (p := ⟨gb446, _, none⟩) NB445_446.out _).trans (((cell_far (p := ⟨gb446, _, none⟩) NB445_446.out _).trans (hHeld.2.2.2.2.2.2.2))))))))))))⟩ (fun hHeld => ?_)
    clear hK K
    clear hs36 hfs36 hns36_0 hns36_2 hns36_3 hms36_0 hms36_2 hms36_3 hs37 hfs37 hns37_0 hns37_2 hns37_3 hms37_0 hms37_2 hms37_3 hs38 hfs38 hns38_0 hns38_2 hns38_3 hms38_0 hms38_2 hms38_3 hs39 hfs39 hns39_0 hns39_2 hns39_3 hms39_0 hms39_2 hms39_3 hs40 hfs40 hns40_0 hns40_2 hns40_3 hms40_0 hms40_2 hms40_3 hs41 hfs41 hns41_0 hns41_2 hns41_3 hms41_0 hms41_2 hms41_3
    generalize hq_ : ((((((w35.setCell ⟨gb446, 0, none⟩ (.string ((rd_T34 l0_0 0).f0))).setCell ⟨gb446, 1, none⟩ (.bool ((rd_T34 l0_0 0).f1))).setCell ⟨gb446, 2, none⟩ (.int .i64 ((rd_T34 l0_0 0).f2.f0))).setCell ⟨gb446, 3, none⟩ (.int .i64 ((rd_T34 l0_0 0).f2.f1))).setCell ⟨gb446, 4, none⟩ (.int .i64 ((rd_T34 l0_0 0).f2.f2))).setCell ⟨gb446, 5, none⟩ (.string ((rd_T34 l0_0 0).f2.f3))) = w35_c at hHeld ⊢
    have z_ := @id (((((((w35.setCell ⟨gb446, 0, none⟩ (.string ((rd_T34 l0_0 0).f0))).setCell ⟨gb446, 1, none⟩ (.bool ((rd_T34 l0_0 0).f1))).setCell ⟨gb446, 2, none⟩ (.int .i64 ((rd_T34 l0_0 0).f2.f0))).setCell ⟨gb446, 3, none⟩ (.int .i64 ((rd_T34 l0_0 0).f2.f1))).setCell ⟨gb446, 4, none⟩ (.int .i64 ((rd_T34 l0_0 0).f2.f2))).setCell ⟨gb446, 5, none⟩ (.string ((rd_T34 l0_0 0).f2.f3))).heap[gb446]? = some _) (bS (blk_put (bS (blk_put (bS (blk_put (bS (blk_put (bS (blk_put (bS (blk_put (bS BK446.out) 0 _ rfl)) 1 _ rfl)) 2 _ rfl)) 3 _ rfl)) 4 _ rfl)) 5 _ rfl)); rw [hq_] at z_; replace BK446 := Aside0.mk z_; clear z_
    have z_ := @id (((((((w35.setCell ⟨gb446, 0, none⟩ (.string ((rd_T34 l0_0 0).f0))).setCell ⟨gb446, 1, none⟩ (.bool ((rd_T34 l0_0 0).f1))).setCell ⟨gb446, 2, none⟩ (.int .i64 ((rd_T34 l0_0 0).f2.f0))).setCell ⟨gb446, 3, none⟩ (.int .i64 ((rd_T34 l0_0 0).f2.f1))).setCell ⟨gb446, 4, none⟩ (.int .i64 ((rd_T34 l0_0 0).f2.f2))).setCell ⟨gb446, 5, none⟩ (.string ((rd_T34 l0_0 0).f2.f3))).heap[gb447]? = some _) (bF BK447.out NB447_446.out); rw [hq_] at z_; replace BK447 := Aside0.mk z_; clear z_
    have z_ := @id (Kd.V _ _ ((((((w35.setCell ⟨gb446, 0, none⟩ (.string ((rd_T34 l0_0 0).f0))).setCell ⟨gb446, 1, none⟩ (.bool ((rd_T34 l0_0 0).f1))).setCell ⟨gb446, 2, none⟩ (.int .i64 ((rd_T34 l0_0 0).f2.f0))).setCell ⟨gb446, 3, none⟩ (.int .i64 ((rd_T34 l0_0 0).f2.f1))).setCell ⟨gb446, 4, none⟩ (.int .i64 ((rd_T34 l0_0 0).f2.f2))).setCell ⟨gb446, 5, none⟩ (.string ((rd_T34 l0_0 0).f2.f3))) _ _ _ _) (vF (b := gb446) (Kd.V_mono HO454.out (fun k_ hk => (⟨hk, hk.2.2.1⟩ : _ ∧ k_ ≠ gb446))) (fun _ hk => hk.2)); rw [hq_] at z_; replace HO454 := Aside0.mk z_; clear z_
    replace HB : Aside0 (Below w.heap.size w w35_c) := ⟨by rw [← hq_]; exact (by repeat (first | (with_reducible first | exact HB.out | apply below_alloc | apply pw_below_drewN | apply below_drew1 | refine below_set ?_ GE445.out | refine below_set ?_ GE446.out | refine below_set ?_ GE447.out | refine below_set ?_ GE449.out) | exact HB.out))⟩
    clear hq_
    refine one_ (i := 3) (N := none) #[true, true, true, true, false] rfl rfl (by kernel_rfl) (by decide) (fun K hK => ?_)
    have hs42 : w35_c.cell? ⟨gb447, 0, none⟩ = some (.slice none 0 0) := (blk_cell BK447.out 0).trans rfl
    have hfs42 := blk_frozen BK447.out 0
    have hns42_0 := NB445_447.out
    have hns42_1 := NB446_447.out
    have hns42_3 := NB449_447.out
    have hms42_0 := NB447_445.out
    have hms42_1 := NB447_446.out
    have hms42_3 := NB447_449.out
    have hs43 : w35_c.cell? ⟨gb447, 1, none⟩ = some (.bool false) := (blk_cell BK447.out 1).trans rfl
    have hfs43 := blk_frozen BK447.out 1
    have hns43_0 := NB445_447.out
    have hns43_1 := NB446_447.out
    have hns43_3 := NB449_447.out
    have hms43_0 := NB447_445.out
    have hms43_1 := NB447_446.out
    have hms43_3 := NB447_449.out
    refine skip_ (w1 := ?_) (by rfl) rfl ?_ ?_
    rotate_left
    ·go_simp
     rfl
    refine hK.out _ _ ⟨((cell_far (p := ⟨gb447, _, none⟩) NB449_447.out _).trans (((cell_far (p := ⟨gb447, _, none⟩) NB449_447.out _).trans (hHeld.1)))), ((cell_far (p := ⟨gb447, _, none⟩) NB449_447.out _).trans (((cell_far (p := ⟨gb447, _, none⟩) NB449_447.out _).trans (hHeld.2.1)))), ((cell_far (p := ⟨gb447, _, none⟩) NB449_447.out _).trans (((cell_far (p := ⟨gb447, _, none⟩) NB449_447.out _).trans (hHeld.2.2.1)))), ((cell_far (p := ⟨gb447, _, none⟩) NB449_447.out _).trans (((cell_far (p := ⟨gb447, _, none⟩) NB449_447.out _).trans (hHeld.2.2.2.1)))), ((cell_far (p := ⟨gb447, _, none⟩) NB449_447.out _).trans (((cell_far (p := ⟨gb447, _, none⟩) NB449_447.out _).trans (hHeld.2.2.2.2.1)))), ((cell_far (p := ⟨gb447, _, none⟩) NB449_447.out _).trans (((cell_far (p := ⟨gb447, _, none⟩) NB449_447.out _).trans (hHeld.2.2.2.2.2.1)))), ((cell_far (p := ⟨gb447, _, none⟩) NB445_447.out _).trans (((cell_far (p := ⟨gb447, _, none⟩) NB445_447.out _).trans (hHeld.2.2.2.2.2.2.1)))), ((cell_far (p := ⟨gb447, _, none⟩) NB445_447.out _).trans (((cell_far (p := ⟨gb447, _, none⟩) NB445_447.out _).trans (hHeld.2.2.2.2.2.2.2))))⟩ (fun hHeld => ?_)
    clear hK K
    refine pure_ (i := 4) (N := some 4) (v := ?_) (a' := ?_) #[true, true, true, true, true] rfl rfl (by kernel_rfl) (fun _ _ _ h => h) (Or.inl ⟨by rfl, ?_⟩) ?_ ?_
    rotate_left
    ·intro w'
     go_simp
     with_reducible rfl
    rotate_left
    ·simp only [Act.put, List.setIfInBounds_toArray, List.set_cons_zero, List.set_cons_succ, i64_w, i32_w]
     rfl
    refine done_ (by kernel_rfl) ?_
    try go_wp2
    refine bodyPost_ret (results_list (rs := [.cell 2 34, .cell 3 26, .tmp 4]) rfl (by simp) (.cell gb446 34 #[.string ((rd_T34 l0_0 0).f0), .bool ((rd_T34 l0_0 0).f1), .int .i64 ((rd_T34 l0_0 0).f2.f0), .int .i64 ((rd_T34 l0_0 0).f2.f1), .int .i64 ((rd_T34 l0_0 0).f2.f2), .string ((rd_T34 l0_0 0).f2.f3)] (0, 0) _ rfl (bF BK446.out NB446_447.out) Try.underlying34 rfl (by kernel_rfl) (.cell gb447 26 #[.slice A33 y450.length c33, .bool a0_1] (0, 0) _ rfl (bS (blk_put (bS (blk_put BK447.out 0 _ rfl)) 1 _ rfl)) Try.underlying26 rfl (by kernel_rfl) (.tmp .nil)))) rfl ?_
    exact ⟨_, by first | rfl | (simp [errW_none, errW_some] <;> rfl) | (simp [*, errW_none, errW_some] <;> rfl), by (with_reducible repeat (first | apply Kd.V_alloc | apply Kd.V_drewN | apply Kd.V_drew)); exact Kd.V_mono (vF (b := gb447) (Kd.V_mono HO454.out (fun k_ hk => (⟨hk, hk.1.2.2.2.1⟩ : _ ∧ k_ ≠ gb447))) (fun _ hk => hk.2)) (fun _ hk => hk.1.1.1), by repeat (first | (with_reducible first | exact HB.out | apply below_alloc | apply pw_below_drewN | apply below_drew1 | refine below_set ?_ GE445.out | refine below_set ?_ GE446.out | refine below_set ?_ GE447.out | refine below_set ?_ GE449.out) | exact HB.out)⟩
   ·rw [if_neg c19] at H
    exact absurd H (by simp)
  ·rw [if_neg c18] at H
   exact absurd H (by simp)

end Go.Proofs.Ytmigglldahkngaa.PA
end

section
/- link's talk, walked: what is told next. -/
namespace Go.Proofs.Ytmigglldahkngaa.XTell
open Go.RowKit Go.Proofs.YtmigglldahkngaaW.PrintWords Go.Proofs.YtmigglldahkngaaW.PrintLast Go.Proofs.YtmigglldahkngaaW.PrintMore Go.Proofs.Ytmigglldahkngaa.PA Go.Proofs.Ytmigglldahkngaa.XMem Go.Proofs.Ytmigglldahkngaa.XSum Go.Proofs.Ytmigglldahkngaa.XQuiet
set_option linter.unusedVariables false
set_option linter.unusedSimpArgs false
set_option maxRecDepth 100000
abbrev Ch := S34
abbrev kCh : Kd Ch := k34
abbrev Fr := S60
abbrev kFr : Kd Fr := k60
/-- A talk's cells. -/
abbrev tc (s : Int) (L : Value) (lat : Bool) (tok at_ : Int) (sn : Bool) (dg c0 c1 c2 c3 : Int) (V : Value) (now : Int) : Array Value :=
 #[.int .i64 s, L, .bool lat, .int .i64 tok, .int .i64 at_, .bool sn, .int .i64 dg, .int .i64 c0, .int .i64 c1, .int .i64 c2, .int .i64 c3, V, .int .i64 now]
/-- A frame's cells. -/
abbrev fc (kd sq : Int) (on : Bool) (ct : ByteArray) (v0 v1 v2 : Int) (v3 : ByteArray) (sum : Int) (T : Value) : Array Value :=
 #[.int .i64 kd, .int .i64 sq, .bool on, .string ct, .int .i64 v0, .int .i64 v1, .int .i64 v2, .string v3, .int .u64 sum, T]
abbrev TT : TypeId := 80
abbrev TF : TypeId := 60
/-- Two blocks are written; all else is as it was, but for new memory. -/
structure Tell (w0 w w' : World) (p q : Nat) (cp cq : Array Value) : Prop where
 bel : Below w0.heap.size w0 w'
 tp : w'.heap[p]? = some (.cells cp TT (0, 0))
 tq : w'.heap[q]? = some (.cells cq TF (0, 0))
 size : w.heap.size ≤ w'.heap.size
 keep : ∀ k, k < w.heap.size → k ≠ p → k ≠ q → w'.heap[k]? = w.heap[k]?
theorem Tell.start {w0 w : World} {p q : Nat} {cp cq : Array Value} (hB : Below w0.heap.size w0 w) (tp : w.heap[p]? = some (.cells cp TT (0, 0))) (tq : w.heap[q]? = some (.cells cq TF (0, 0))) : Tell w0 w w p q cp cq :=
 ⟨hB, tp, tq, Nat.le_refl _, fun _ _ _ _ => rfl⟩
theorem Tell.below {w0 w w' w2 : World} {p q : Nat} {cp cq : Array Value} (h : Tell w0 w w' p q cp cq) (hb : Below w'.heap.size w' w2) : Tell w0 w w2 p q cp cq :=
 ⟨below_step h.bel hb, blk_below h.tp hb, blk_below h.tq hb, Nat.le_trans h.size hb.size, fun k h1 h2 h3 => (hb.block k (Nat.lt_of_lt_of_le h1 h.size)).trans (h.keep k h1 h2 h3)⟩
theorem Tell.setp {w0 w w' : World} {p q : Nat} {cp cq : Array Value} (h : Tell w0 w w' p q cp cq) (hp : w0.heap.size ≤ p) (hne : p ≠ q) (i : Nat) (v : Value) : Tell w0 w (w'.setCell ⟨p, i, none⟩ v) p q (cp.setIfInBounds i v) cq :=
 ⟨below_set h.bel hp, blk_set h.tp i v, blk_far h.tq (p := ⟨p, i, none⟩) (fun e => hne e.symm) v, Nat.le_trans h.size (by simp [World.setCell]), fun k h1 h2 h3 => (Below.heap_setCell w' ⟨p, i, none⟩ v k (fun e => h2 e)).trans (h.keep k h1 h2 h3)⟩
theorem Tell.setq {w0 w w' : World} {p q : Nat} {cp cq : Array Value} (h : Tell w0 w w' p q cp cq) (hq : w0.heap.size ≤ q) (hne : p ≠ q) (i : Nat) (v : Value) : Tell w0 w (w'.setCell ⟨q, i, none⟩ v) p q cp (cq.setIfInBounds i v) :=
 ⟨below_set h.bel hq, blk_far h.tp (p := ⟨q, i, none⟩) hne v, blk_set h.tq i v, Nat.le_trans h.size (by simp [World.setCell]), fun k h1 h2 h3 => (Below.heap_setCell w' ⟨q, i, none⟩ v k (fun e => h3 e)).trans (h.keep k h1 h2 h3)⟩
theorem snapshot_no (s : Int) (L : Value) (lat : Bool) (tok at_ dg c0 c1 c2 c3 : Int) (V : Value) (now : Int) (p q : Nat) (w : World) (tp : w.heap[p]? = some (.cells (tc s L lat tok at_ false dg c0 c1 c2 c3 V now) TT (0, 0))) :
  Calls Try.prog 75 #[.pointer (some ⟨p, 0, none⟩), .pointer (some ⟨q, 0, none⟩)] w fun e w' => e = .returned (.bool false) ∧ w' = w := by
 have r5 := (blk_cell tp 5).trans rfl
 go_enter Try.func75, Try.ntmps75
 go_wp2
 go_ret
 exact ⟨rfl, rfl⟩
set_option maxHeartbeats 4000000 in
theorem snapshot_yes (s : Int) (A : Option Addr) (n cc : Nat) (lat : Bool) (tok at_ dg c0 c1 c2 c3 : Int) (B : Option Addr) (m mc : Nat) (now sq sum : Int) (on : Bool) (ct : ByteArray) (v0 v1 v2 : Int) (v3 : ByteArray) (D : Option Addr) (d dc : Nat) (kd : Int) (p q : Nat) (w0 w : World) (hB : Below w0.heap.size w0 w) (hp : w0.heap.size ≤ p) (hq : w0.heap.size ≤ q) (hne : p ≠ q)
  (tp : w.heap[p]? = some (.cells (tc s (.slice A n cc) lat tok at_ true dg c0 c1 c2 c3 (.slice B m mc) now) TT (0, 0))) (tq : w.heap[q]? = some (.cells (fc kd sq on ct v0 v1 v2 v3 sum (.slice D d dc)) TF (0, 0))) :
  Calls Try.prog 75 #[.pointer (some ⟨p, 0, none⟩), .pointer (some ⟨q, 0, none⟩)] w fun e w' => e = .returned (.bool true) ∧ Tell w0 w w' p q (tc s (.slice A n cc) lat tok at_ false now c0 c1 c2 c3 (.slice B m mc) now) (fc 3 sq on ct v0 v1 v2 v3 sum (.slice B m mc)) := by
 have H := Tell.start hB tp tq
 have r5 := (blk_cell tp 5).trans rfl
 have r12 := (blk_cell tp 12).trans rfl
 have r11 := (blk_cell tp 11).trans rfl
 have r6 := (blk_cell tp 6).trans rfl
 have z5 := blk_frozen tp 5
 have z6 := blk_frozen tp 6
 go_enter Try.func75, Try.ntmps75
 go_upto_region 4 with (fail)
 have H1 := (H.setp hp hne 5 (.bool false)).setp hp hne 6 (.int .i64 now)
 generalize (w.setCell ⟨p, 5, none⟩ (.bool false)).setCell ⟨p, 6, none⟩ (.int .i64 now) = w1 at H1 ⊢
 clear r5 r12 r11 r6 z5 z6 H tp tq hB
 have r11 := (blk_cell H1.tp 11).trans rfl
 have y0 := (blk_cell H1.tq 0).trans rfl
 have y9 := (blk_cell H1.tq 9).trans rfl
 have z0 := blk_frozen H1.tq 0
 have z9 := blk_frozen H1.tq 9
 go_upto_region 5 with (fail)
 have H2 := (H1.setq hq hne 0 (.int .i64 3)).setq hq hne 9 (.slice B m mc)
 generalize (w1.setCell ⟨q, 0, none⟩ (.int .i64 3)).setCell ⟨q, 9, none⟩ (.slice B m mc) = w2 at H2 ⊢
 clear r11 y0 y9 z0 z9 H1
 go_wp2
 go_ret
 exact ⟨rfl, H2⟩
theorem drewH (w : World) (g : Nat) : w.drew.heap[g]? = w.heap[g]? := rfl
theorem setH (w : World) {g q : Nat} (i : Nat) (v : Value) (h : g ≠ q) : (w.setCell ⟨q, i, none⟩ v).heap[g]? = w.heap[g]? := Below.heap_setCell w ⟨q, i, none⟩ v g h
theorem pop_nil (lat : Bool) : queue_Pop.f [] lat = some (⟨#[]⟩, false, 0, 0, 0, ⟨#[]⟩, [], lat, false) := by
 unfold queue_Pop.f
 rw [if_pos (by simp)]
theorem pop_cons (x : Ch) (l : List Ch) (lat : Bool) : queue_Pop.f (x :: l) lat = some (x.f0, x.f1, x.f2.f0, x.f2.f1, x.f2.f2, x.f2.f3, l, lat, true) := by
 unfold queue_Pop.f
 rw [if_neg (by simp <;> omega), if_pos (by simp <;> omega), if_pos (by simp <;> omega)]
 rfl
theorem delta_no (s : Int) (A : Option Addr) (cc : Nat) (lat : Bool) (tok at_ : Int) (sn : Bool) (dg c0 c1 c2 c3 : Int) (V : Value) (now : Int) (p q : Nat) (ok : Nat → Prop) (w : World) (tp : w.heap[p]? = some (.cells (tc s (.slice A 0 cc) lat tok at_ sn dg c0 c1 c2 c3 V now) TT (0, 0)))
  (hv : Kd.V kCh 34 w w.heap.size ok (.slice A 0 cc) []) :
  Calls Try.prog 76 #[.pointer (some ⟨p, 0, none⟩), .pointer (some ⟨q, 0, none⟩)] w fun e w' => e = .returned (.bool false) ∧ Below w.heap.size w w' := by
 have r1 := (blk_cell tp 1).trans rfl
 have r2 := (blk_cell tp 2).trans rfl
 have HP := Aside0.mk (queue_Pop.calls ok A cc [] lat _ _ _ _ _ _ _ _ _ w hv (pop_nil lat))
 clear hv tp
 go_enter Try.func76, Try.ntmps76
 go_wp2_with fail
 refine HP.out.mono ?_
 rintro e w1 ⟨v6, rfl, hV, hb⟩
 obtain ⟨A6, c6, rfl⟩ := Kd.V_slice hV
 clear hV HP r1 r2
 go_upto_region 2 with (fail)
 generalize hg : World.alloc _ _ = w2
 obtain ⟨hB', _, _⟩ := Mem.new2 hg hb (Mem.nil _)
 clear hg hb
 go_wp2
 go_ret
 exact ⟨rfl, hB'⟩
set_option maxHeartbeats 8000000 in
theorem delta_yes (s : Int) (A : Option Addr) (n cc : Nat) (lat : Bool) (tok at_ : Int) (sn : Bool) (dg c0 c1 c2 c3 : Int) (B : Option Addr) (m mc : Nat) (now sq sum : Int) (on : Bool) (ct : ByteArray) (v0 v1 v2 : Int) (v3 : ByteArray) (T : Value) (kd : Int) (p q : Nat) (w0 w : World) (hB : Below w0.heap.size w0 w) (hp : w0.heap.size ≤ p) (hq : w0.heap.size ≤ q) (hne : p ≠ q) (x : Ch) (l : List Ch)
  (tp : w.heap[p]? = some (.cells (tc s (.slice A (x :: l).length cc) lat tok at_ sn dg c0 c1 c2 c3 (.slice B m mc) now) TT (0, 0))) (tq : w.heap[q]? = some (.cells (fc kd sq on ct v0 v1 v2 v3 sum T) TF (0, 0)))
  (ok : Nat → Prop) (hok : ∀ k, ok k → k ≠ p ∧ k ≠ q) (hnew : ∀ k, w.heap.size ≤ k → ok k) (hv : Kd.V kCh 34 w w.heap.size ok (.slice A (x :: l).length cc) (x :: l)) :
  Calls Try.prog 76 #[.pointer (some ⟨p, 0, none⟩), .pointer (some ⟨q, 0, none⟩)] w fun e w' => e = .returned (.bool true) ∧ ∃ A' c', Tell w0 w w' p q (tc s (.slice A' l.length c') lat tok at_ sn dg c0 c1 c2 c3 (.slice B m mc) now) (fc 1 sq x.f1 x.f0 x.f2.f0 x.f2.f1 x.f2.f2 x.f2.f3 sum T) ∧ Kd.V kCh 34 w' 0 ok (.slice A' l.length c') l := by
 have H := Tell.start hB tp tq
 have r1 := (blk_cell tp 1).trans rfl
 have r2 := (blk_cell tp 2).trans rfl
 have HP := Aside0.mk (queue_Pop.calls ok A cc (x :: l) lat _ _ _ _ _ _ _ _ _ w hv (pop_cons x l lat))
 have hpl := blk_lt tp
 have hql := blk_lt tq
 generalize hn : (x :: l).length = n1 at r1 HP
 clear hv tp tq hB
 go_enter Try.func76, Try.ntmps76
 go_wp2_with fail
 refine HP.out.mono ?_
 rintro e w1 ⟨v6, rfl, hV, hb⟩
 obtain ⟨A6, c6, rfl⟩ := Kd.V_slice hV
 have H1 := H.below hb
 have hV1 : Kd.V kCh 34 w1 0 ok (.slice A6 l.length c6) l := Kd.V_mono hV (fun k hk => by rcases hk with h | h; exact h; exact hnew k h)
 have hz1 : w0.heap.size ≤ w1.heap.size := H1.bel.size
 clear hV HP r1 r2 hb H
 go_upto_region 2 with (fail)
 generalize hg : World.alloc _ _ = w2
 obtain ⟨_, hM, hb⟩ := Mem.new2 hg (Below.refl _ _) (Mem.nil _)
 have H2 := H1.below hb
 have hV2 := Kd.V_below hV1 hb
 have hpq : p < w1.heap.size ∧ q < w1.heap.size := ⟨blk_lt H1.tp, blk_lt H1.tq⟩
 clear hg hb H1 hV1
 generalize w1.heap.size = g5 at hM hpq ⊢
 have T6 := hM.get 0 rfl
 have T5 := hM.get 1 rfl
 have u0 := (blk_cell T6 0).trans rfl
 have u1 := (blk_cell T6 1).trans rfl
 have r1 := (blk_cell H2.tp 1).trans rfl
 have r2 := (blk_cell H2.tp 2).trans rfl
 have z1 := blk_frozen H2.tp 1
 have z2 := blk_frozen H2.tp 2
 go_upto_region 5 with (fail)
 have H3 := (H2.setp hp hne 1 (.slice A6 l.length c6)).setp hp hne 2 (.bool lat)
 have hV3 := Kd.V_far (Kd.V_far hV2 (p := ⟨p, 1, none⟩) (fun k hk => (hok k hk).1) (.slice A6 l.length c6)) (p := ⟨p, 2, none⟩) (fun k hk => (hok k hk).1) (.bool lat)
 have T5' := blk_far (blk_far T5 (p := ⟨p, 1, none⟩) (by show g5 ≠ p; omega) (.slice A6 l.length c6)) (p := ⟨p, 2, none⟩) (by show g5 ≠ p; omega) (.bool lat)
 generalize (w2.setCell ⟨p, 1, none⟩ (.slice A6 l.length c6)).setCell ⟨p, 2, none⟩ (.bool lat) = w3 at H3 hV3 T5' ⊢
 clear T5 T6 u0 u1 r1 r2 z1 z2 H2 hV2 hM
 have SS : ∀ w' : World, w'.heap[g5]? = w3.heap[g5]? → w'.cell? ⟨g5, 0, none⟩ = some (.string x.f0) ∧ w'.cell? ⟨g5, 1, none⟩ = some (.bool x.f1) ∧ w'.cell? ⟨g5, 2, none⟩ = some (.int .i64 x.f2.f0) ∧ w'.cell? ⟨g5, 3, none⟩ = some (.int .i64 x.f2.f1) ∧ w'.cell? ⟨g5, 4, none⟩ = some (.int .i64 x.f2.f2) ∧ w'.cell? ⟨g5, 5, none⟩ = some (.string x.f2.f3) := fun w' he => by
  have T := he.trans T5'
  exact ⟨(blk_cell T 0).trans rfl, (blk_cell T 1).trans rfl, (blk_cell T 2).trans rfl, (blk_cell T 3).trans rfl, (blk_cell T 4).trans rfl, (blk_cell T 5).trans rfl⟩
 have hgq : g5 ≠ q := by omega
 clear T5'
 have y0 := (blk_cell H3.tq 0).trans rfl
 have z0 := blk_frozen H3.tq 0
 have y2 := (blk_cell H3.tq 2).trans rfl
 have z2 := blk_frozen H3.tq 2
 have y3 := (blk_cell H3.tq 3).trans rfl
 have z3 := blk_frozen H3.tq 3
 have y4 := (blk_cell H3.tq 4).trans rfl
 have z4 := blk_frozen H3.tq 4
 have y5 := (blk_cell H3.tq 5).trans rfl
 have z5 := blk_frozen H3.tq 5
 have y6 := (blk_cell H3.tq 6).trans rfl
 have z6 := blk_frozen H3.tq 6
 have y7 := (blk_cell H3.tq 7).trans rfl
 have z7 := blk_frozen H3.tq 7
 go_wp2_with fail
 go_region_held3 (fun w' => w'.cell? ⟨g5, 0, none⟩ = some (.string x.f0) ∧ w'.cell? ⟨g5, 1, none⟩ = some (.bool x.f1) ∧ w'.cell? ⟨g5, 2, none⟩ = some (.int .i64 x.f2.f0) ∧ w'.cell? ⟨g5, 3, none⟩ = some (.int .i64 x.f2.f1) ∧ w'.cell? ⟨g5, 4, none⟩ = some (.int .i64 x.f2.f2) ∧ w'.cell? ⟨g5, 5, none⟩ = some (.string x.f2.f3)) (exact SS _ (by with_reducible (repeat (first | exact Eq.refl _ | exact drewH _ _ | refine (setH _ _ _ hgq).trans ?_ | refine (drewH _ _).trans ?_)))) (first | fail)
 have H4 := ((((((H3.setq hq hne 0 (.int .i64 1)).setq hq hne 3 (.string x.f0)).setq hq hne 2 (.bool x.f1)).setq hq hne 4 (.int .i64 x.f2.f0)).setq hq hne 5 (.int .i64 x.f2.f1)).setq hq hne 6 (.int .i64 x.f2.f2)).setq hq hne 7 (.string x.f2.f3)
 have hV4 := Kd.V_far (p := ⟨q, 7, none⟩) (Kd.V_far (p := ⟨q, 6, none⟩) (Kd.V_far (p := ⟨q, 5, none⟩) (Kd.V_far (p := ⟨q, 4, none⟩) (Kd.V_far (p := ⟨q, 2, none⟩) (Kd.V_far (p := ⟨q, 3, none⟩) (Kd.V_far (p := ⟨q, 0, none⟩) hV3 (fun k hk => (hok k hk).2) (.int .i64 1)) (fun k hk => (hok k hk).2) (.string x.f0)) (fun k hk => (hok k hk).2) (.bool x.f1)) (fun k hk => (hok k hk).2) (.int .i64 x.f2.f0)) (fun k hk => (hok k hk).2) (.int .i64 x.f2.f1)) (fun k hk => (hok k hk).2) (.int .i64 x.f2.f2)) (fun k hk => (hok k hk).2) (.string x.f2.f3)
 generalize hw4 : ((((((w3.setCell ⟨q, 0, none⟩ (.int .i64 1)).setCell ⟨q, 3, none⟩ (.string x.f0)).setCell ⟨q, 2, none⟩ (.bool x.f1)).setCell ⟨q, 4, none⟩ (.int .i64 x.f2.f0)).setCell ⟨q, 5, none⟩ (.int .i64 x.f2.f1)).setCell ⟨q, 6, none⟩ (.int .i64 x.f2.f2)).setCell ⟨q, 7, none⟩ (.string x.f2.f3) = w4 at H4 hV4 ⊢
 have hd : Below w4.heap.size w4 w4.drew := below_drew1 (Below.refl _ _)
 replace H4 := H4.below hd
 replace hV4 := Kd.V_below hV4 hd
 clear y0 y2 y3 y4 y5 y6 y7 z0 z2 z3 z4 z5 z6 z7 SS H3 hV3 hd hw4
 generalize w4.drew = w5 at H4 hV4 ⊢
 go_wp2
 go_ret
 exact ⟨rfl, A6, c6, H4, hV4⟩
theorem digest_no (s : Int) (L : Value) (lat : Bool) (tok at_ : Int) (sn : Bool) (dg c0 c1 c2 c3 : Int) (V : Value) (now : Int) (h0 : 0 ≤ dg) (h1 : dg ≤ 1099511627776) (h2 : 0 ≤ now) (h3 : now ≤ 1099511627776) (hd : now - dg < c3) (p q : Nat) (w : World) (tp : w.heap[p]? = some (.cells (tc s L lat tok at_ sn dg c0 c1 c2 c3 V now) TT (0, 0))) :
  Calls Try.prog 77 #[.pointer (some ⟨p, 0, none⟩), .pointer (some ⟨q, 0, none⟩)] w fun e w' => e = .returned (.bool false) ∧ Below w.heap.size w w' := by
 have r6 := (blk_cell tp 6).trans rfl
 have r12 := (blk_cell tp 12).trans rfl
 have r10 := (blk_cell tp 10).trans rfl
 have hw : IntKind.i64.wrap (now - dg) = now - dg := IntWalk.i64_in _ (by omega)
 have y6 : ∀ u : Kin w, u.at'.cell? _ = _ := Kin.cell r6
 have y12 : ∀ u : Kin w, u.at'.cell? _ = _ := Kin.cell r12
 have y10 : ∀ u : Kin w, u.at'.cell? _ = _ := Kin.cell r10
 clear h0 h1 h2 h3 r6 r12 r10
 go_enter Try.func77, Try.ntmps77
 go_wp2_with fail
 refine region_kin (by kernel_rfl) (by kernel_rfl) ?_
 repeat (go_big_quiet_step (fail))
 refine wpQuiet_nil ?_
 rintro w6 ⟨⟨_, b6⟩, rfl⟩
 clear y6 y12 y10
 go_wp2
 go_ret
 exact ⟨rfl, b6⟩
set_option maxHeartbeats 4000000 in
theorem digest_yes (s : Int) (A : Option Addr) (n cc : Nat) (lat : Bool) (tok at_ : Int) (sn : Bool) (dg c0 c1 c2 c3 : Int) (B : Option Addr) (mc : Nat) (now sq sum : Int) (h0 : 0 ≤ dg) (h1 : dg ≤ 1099511627776) (h2 : 0 ≤ now) (h3 : now ≤ 1099511627776) (hd : c3 ≤ now - dg) (on : Bool) (ct : ByteArray) (v0 v1 v2 : Int) (v3 : ByteArray) (T : Value) (kd : Int) (p q : Nat) (w0 w : World) (hB : Below w0.heap.size w0 w) (hp : w0.heap.size ≤ p) (hq : w0.heap.size ≤ q) (hne : p ≠ q)
  (k0 : Nat) (t : List Se) (hl : t.length ≤ 40) (hm : digest_May.f k0 t = some true) (hz : ∀ x ∈ t, x.f0.size ≤ 9223372036854775807)
  (tp : w.heap[p]? = some (.cells (tc s (.slice A n cc) lat tok at_ sn dg c0 c1 c2 c3 (.slice B t.length mc) now) TT (0, 0))) (tq : w.heap[q]? = some (.cells (fc kd sq on ct v0 v1 v2 v3 sum T) TF (0, 0)))
  (hv : Kd.V kSe 72 w 0 (fun k => k ≠ p) (.slice B t.length mc) t) :
  Calls Try.prog 77 #[.pointer (some ⟨p, 0, none⟩), .pointer (some ⟨q, 0, none⟩)] w fun e w' => e = .returned (.bool true) ∧ Tell w0 w w' p q (tc s (.slice A n cc) lat tok at_ sn now c0 c1 c2 c3 (.slice B t.length mc) now) (fc 2 sq on ct v0 v1 v2 v3 (sumB t) T) := by
 have H := Tell.start hB tp tq
 have r6 := (blk_cell tp 6).trans rfl
 have r12 := (blk_cell tp 12).trans rfl
 have r10 := (blk_cell tp 10).trans rfl
 have z6 := blk_frozen tp 6
 have hw : IntKind.i64.wrap (now - dg) = now - dg := IntWalk.i64_in _ (by omega)
 have HS := Aside0.mk (fun w h => sum_calls k0 t hl hm hz w (.slice B t.length mc) h)
 have y6 : ∀ u : Kin w, u.at'.cell? _ = _ := Kin.cell r6
 have y12 : ∀ u : Kin w, u.at'.cell? _ = _ := Kin.cell r12
 have y10 : ∀ u : Kin w, u.at'.cell? _ = _ := Kin.cell r10
 clear h0 h1 h2 h3 tp tq hB hm hz hl r6 r12 r10 z6
 go_enter Try.func77, Try.ntmps77
 go_wp2_with fail
 refine region_kin (by kernel_rfl) (by kernel_rfl) ?_
 repeat (go_big_quiet_step (fail))
 refine wpQuiet_nil ?_
 rintro w1 ⟨⟨_, b6⟩, rfl⟩
 rename World => w1
 clear y6 y12 y10
 have H1 := H.below b6
 have hv1 := Kd.V_below hv b6
 clear b6 H hv
 have r6 := (blk_cell H1.tp 6).trans rfl
 have r12 := (blk_cell H1.tp 12).trans rfl
 have z6 := blk_frozen H1.tp 6
 go_upto_region 4 with (fail)
 have H2 := H1.setp hp hne 6 (.int .i64 now)
 have hv2 := Kd.V_far hv1 (p := ⟨p, 6, none⟩) (fun k hk => hk) (.int .i64 now)
 generalize w1.setCell ⟨p, 6, none⟩ (.int .i64 now) = w2 at H2 hv2 ⊢
 clear r6 r12 z6 H1 hv1
 have r11 := (blk_cell H2.tp 11).trans rfl
 go_wp2_with fail
 refine (HS.out w2 (Im.of_V hv2)).mono ?_
 rintro e w3 ⟨rfl, hb⟩
 have H3 := H2.below hb
 clear hb hv2 H2 HS r11
 have y0 := (blk_cell H3.tq 0).trans rfl
 have y8 := (blk_cell H3.tq 8).trans rfl
 have z0 := blk_frozen H3.tq 0
 have z8 := blk_frozen H3.tq 8
 generalize hsm : sumB t = sm at H3 ⊢
 go_upto_region 5 with (fail)
 have H4 := (H3.setq hq hne 0 (.int .i64 2)).setq hq hne 8 (.int .u64 sm)
 generalize (w3.setCell ⟨q, 0, none⟩ (.int .i64 2)).setCell ⟨q, 8, none⟩ (.int .u64 sm) = w4 at H4 ⊢
 clear y0 y8 z0 z8 H3
 go_wp2
 go_ret
 subst hsm
 exact ⟨rfl, H4⟩
end Go.Proofs.Ytmigglldahkngaa.XTell
end

section
/- link's talk, walked: the next frame, if something is to be told. -/
namespace Go.Proofs.Ytmigglldahkngaa.XTell
open Go.RowKit Go.Proofs.YtmigglldahkngaaW.PrintWords Go.Proofs.YtmigglldahkngaaW.PrintLast Go.Proofs.YtmigglldahkngaaW.PrintMore Go.Proofs.Ytmigglldahkngaa.PA Go.Proofs.Ytmigglldahkngaa.XMem Go.Proofs.Ytmigglldahkngaa.XSum Go.Proofs.Ytmigglldahkngaa.XQuiet
set_option linter.unusedVariables false
set_option linter.unusedSimpArgs false
set_option maxRecDepth 100000
theorem idx0 (a b c : Value) (w : World) : (Instr.index 108 (.agg #[a, b, c]) (.int .i64 0)).run Try.prog w = .ok a w := by
 have h := Try.underlying108
 have hz := Try.sizeOf107 w
 simp [Instr.index, run_underlying h, asIntOf, go_sem, hz, part]
theorem idx1 (a b c : Value) (w : World) : (Instr.index 108 (.agg #[a, b, c]) (.int .i64 1)).run Try.prog w = .ok b w := by
 have h := Try.underlying108
 have hz := Try.sizeOf107 w
 simp [Instr.index, run_underlying h, asIntOf, go_sem, hz, part]
theorem idx2 (a b c : Value) (w : World) : (Instr.index 108 (.agg #[a, b, c]) (.int .i64 2)).run Try.prog w = .ok c w := by
 have h := Try.underlying108
 have hz := Try.sizeOf107 w
 simp [Instr.index, run_underlying h, asIntOf, go_sem, hz, part]
attribute [local go_sem] idx0 idx1 idx2
/-- One block is written; all else is as it was, but for new memory. -/
structure Next (w0 w w' : World) (p : Nat) (cp : Array Value) : Prop where
 bel : Below w0.heap.size w0 w'
 tp : w'.heap[p]? = some (.cells cp TT (0, 0))
 size : w.heap.size ≤ w'.heap.size
 keep : ∀ k, k < w.heap.size → k ≠ p → w'.heap[k]? = w.heap[k]?
theorem Next.of {w0 w w1 w' : World} {p q : Nat} {cp cq : Array Value} (h : Tell w0 w1 w' p q cp cq) (hb : Below w.heap.size w w1) (hq : w.heap.size ≤ q) : Next w0 w w' p cp :=
 ⟨h.bel, h.tp, Nat.le_trans hb.size h.size, fun k h1 h2 => (h.keep k (Nat.lt_of_lt_of_le h1 hb.size) h2 (by omega)).trans (hb.block k h1)⟩
theorem Next.setp {w0 w w' : World} {p : Nat} {cp : Array Value} (h : Next w0 w w' p cp) (hp : w0.heap.size ≤ p) (i : Nat) (v : Value) : Next w0 w (w'.setCell ⟨p, i, none⟩ v) p (cp.setIfInBounds i v) :=
 ⟨below_set h.bel hp, blk_set h.tp i v, Nat.le_trans h.size (by simp [World.setCell]), fun k h1 h2 => (Below.heap_setCell w' ⟨p, i, none⟩ v k (fun e => h2 e)).trans (h.keep k h1 h2)⟩
theorem Next.setq {w0 w w' : World} {p q : Nat} {cp : Array Value} (h : Next w0 w w' p cp) (hq : w.heap.size ≤ q) (hq0 : w0.heap.size ≤ q) (hne : p ≠ q) (i : Nat) (v : Value) : Next w0 w (w'.setCell ⟨q, i, none⟩ v) p cp :=
 ⟨below_set h.bel hq0, blk_far h.tp (p := ⟨q, i, none⟩) hne v, Nat.le_trans h.size (by simp [World.setCell]), fun k h1 h2 => (Below.heap_setCell w' ⟨q, i, none⟩ v k (by show k ≠ q; omega)).trans (h.keep k h1 h2)⟩
theorem Next.below {w0 w w' w2 : World} {p : Nat} {cp : Array Value} (h : Next w0 w w' p cp) (hb : Below w'.heap.size w' w2) : Next w0 w w2 p cp :=
 ⟨below_step h.bel hb, blk_below h.tp hb, Nat.le_trans h.size hb.size, fun k h1 h2 => (hb.block k (Nat.lt_of_lt_of_le h1 h.size)).trans (h.keep k h1 h2)⟩

set_option maxHeartbeats 8000000 in
theorem next_snap (s : Int) (A : Option Addr) (n cc : Nat) (tok at_ dg c0 c1 c2 c3 : Int) (B : Option Addr) (m mc : Nat) (now : Int) (p : Nat) (w0 w : World) (hB : Below w0.heap.size w0 w) (hp : w0.heap.size ≤ p) (hs0 : 0 ≤ s) (hs : s < 1099511627776)
  (tp : w.heap[p]? = some (.cells (tc s (.slice A n cc) false tok at_ true dg c0 c1 c2 c3 (.slice B m mc) now) TT (0, 0))) :
  Calls Try.prog 52 #[.pointer (some ⟨p, 0, none⟩)] w fun e w' => e = .returned (.tuple #[.agg #[(.int .i64 3), (.int .i64 s), (.bool false), (.string ⟨#[]⟩), (.int .i64 0), (.int .i64 0), (.int .i64 0), (.string ⟨#[]⟩), (.int .u64 0), (.slice B m mc)], .bool true]) ∧ Next w0 w w' p (tc (s + 1) (.slice A n cc) false tok at_ false now c0 c1 c2 c3 (.slice B m mc) now) := by
 have r0 := (blk_cell tp 0).trans rfl
 have hpl := blk_lt tp
 go_enter Try.func52, Try.ntmps52
 go_upto_region 1 with (fail)
 generalize hg : World.alloc _ _ = w1
 have hb1 := al_below hg
 have T2 := al_new hg
 have tp1 := blk_below tp hb1
 have hB1 := below_step hB hb1
 have hwz := hB.size
 have r0' := pw_cell_below hb1 r0
 clear hg r0 hB
 obtain ⟨p2, hp2⟩ : ∃ x, x = w.heap.size := ⟨_, rfl⟩
 rw [← hp2] at T2
 rw [← hp2]
 have hlt2 := blk_lt T2
 go_upto_region 2 with (fail)
 generalize hg : World.alloc _ _ = w2
 have hb2 := al_below hg
 have T4 := al_new hg
 have tp2 := blk_below tp1 hb2
 have T2' := blk_below T2 hb2
 have hB2 := below_step hB1 hb2
 have hbw := below_step hb1 hb2
 clear hg r0' hB1 tp1 T2
 obtain ⟨q, hq⟩ : ∃ x, x = w1.heap.size := ⟨_, rfl⟩
 rw [← hq] at T4
 rw [← hq]
 have hne : p ≠ q := by omega
 have hq0 : w0.heap.size ≤ q := by omega
 have hqw : w.heap.size ≤ q := by omega
 have hpq : p2 ≠ q := by omega
 have hpp : p ≠ p2 := by omega
 have hpw : w.heap.size ≤ p2 := by omega
 have hp0 : w0.heap.size ≤ p2 := by omega
 have hqp : ∀ k, k < w.heap.size → k ≠ q ∧ k ≠ p2 := fun k hk => ⟨by omega, by omega⟩
 clear hq hp2 hlt2 hwz
 go_wp2
 refine wp_loop_rounds 4 ?_
 rw [rounds_succ]
 go_wp2_with fail
 refine (snapshot_yes s A n cc false tok at_ dg c0 c1 c2 c3 B m mc now s 0 false ⟨#[]⟩ 0 0 0 ⟨#[]⟩ none 0 0 0 p q w0 w2 hB2 hp hq0 hne tp2 T4).mono ?_
 rintro e w3 ⟨rfl, H⟩
 have T2n := (H.keep p2 (blk_lt T2') (fun e => hpp e.symm) hpq).trans T2'
 have Tq := H.tq
 have HN := Next.of H hbw hqw
 clear H T2' T4 hB2 hbw
 have hw : wrap64 (s + 1) = s + 1 := by unfold wrap64; omega
 have r0 := (blk_cell HN.tp 0).trans rfl
 have z0 := blk_frozen HN.tp 0
 go_upto_region 7 with (fail)
 have HN2 := HN.setp hp 0 (.int .i64 (s + 1))
 have Tq2 := blk_far Tq (p := ⟨p, 0, none⟩) (fun e => hne e.symm) (.int .i64 (s + 1))
 have T22 := blk_far T2n (p := ⟨p, 0, none⟩) (fun e => hpp e.symm) (.int .i64 (s + 1))
 generalize w3.setCell ⟨p, 0, none⟩ (.int .i64 (s + 1)) = w6 at HN2 Tq2 T22 ⊢
 clear HN Tq T2n r0 z0
 have y0 := (blk_cell Tq2 0).trans rfl
 have y1 := (blk_cell Tq2 1).trans rfl
 have y2 := (blk_cell Tq2 2).trans rfl
 have y3 := (blk_cell Tq2 3).trans rfl
 have y4 := (blk_cell Tq2 4).trans rfl
 have y5 := (blk_cell Tq2 5).trans rfl
 have y6 := (blk_cell Tq2 6).trans rfl
 have y7 := (blk_cell Tq2 7).trans rfl
 have y8 := (blk_cell Tq2 8).trans rfl
 have y9 := (blk_cell Tq2 9).trans rfl
 have k0 := (blk_cell T22 0).trans rfl
 have z0 := blk_frozen T22 0
 have k1 := (blk_cell T22 1).trans rfl
 have z1 := blk_frozen T22 1
 have k2 := (blk_cell T22 2).trans rfl
 have z2 := blk_frozen T22 2
 have k3 := (blk_cell T22 3).trans rfl
 have z3 := blk_frozen T22 3
 have k4 := (blk_cell T22 4).trans rfl
 have z4 := blk_frozen T22 4
 have k5 := (blk_cell T22 5).trans rfl
 have z5 := blk_frozen T22 5
 have k6 := (blk_cell T22 6).trans rfl
 have z6 := blk_frozen T22 6
 have k7 := (blk_cell T22 7).trans rfl
 have z7 := blk_frozen T22 7
 have k8 := (blk_cell T22 8).trans rfl
 have z8 := blk_frozen T22 8
 have k9 := (blk_cell T22 9).trans rfl
 have z9 := blk_frozen T22 9
 go_wp2
 have b0 : (w6.setCell ⟨p2, 0, none⟩ (.int .i64 3)).heap[p2]? = some (.cells #[(.int .i64 3), (.int .i64 0), (.bool false), (.string ⟨#[]⟩), (.int .i64 0), (.int .i64 0), (.int .i64 0), (.string ⟨#[]⟩), (.int .u64 0), (.slice none 0 0)] TF (0, 0)) := blk_set T22 0 _
 have n0 := HN2.setq hpw hp0 hpp 0 (.int .i64 3)
 have b1 : ((w6.setCell ⟨p2, 0, none⟩ (.int .i64 3)).setCell ⟨p2, 1, none⟩ (.int .i64 s)).heap[p2]? = some (.cells #[(.int .i64 3), (.int .i64 s), (.bool false), (.string ⟨#[]⟩), (.int .i64 0), (.int .i64 0), (.int .i64 0), (.string ⟨#[]⟩), (.int .u64 0), (.slice none 0 0)] TF (0, 0)) := blk_set b0 1 _
 have n1 := n0.setq hpw hp0 hpp 1 (.int .i64 s)
 have b2 : (((w6.setCell ⟨p2, 0, none⟩ (.int .i64 3)).setCell ⟨p2, 1, none⟩ (.int .i64 s)).setCell ⟨p2, 2, none⟩ (.bool false)).heap[p2]? = some (.cells #[(.int .i64 3), (.int .i64 s), (.bool false), (.string ⟨#[]⟩), (.int .i64 0), (.int .i64 0), (.int .i64 0), (.string ⟨#[]⟩), (.int .u64 0), (.slice none 0 0)] TF (0, 0)) := blk_set b1 2 _
 have n2 := n1.setq hpw hp0 hpp 2 (.bool false)
 have b3 : ((((w6.setCell ⟨p2, 0, none⟩ (.int .i64 3)).setCell ⟨p2, 1, none⟩ (.int .i64 s)).setCell ⟨p2, 2, none⟩ (.bool false)).setCell ⟨p2, 3, none⟩ (.string ⟨#[]⟩)).heap[p2]? = some (.cells #[(.int .i64 3), (.int .i64 s), (.bool false), (.string ⟨#[]⟩), (.int .i64 0), (.int .i64 0), (.int .i64 0), (.string ⟨#[]⟩), (.int .u64 0), (.slice none 0 0)] TF (0, 0)) := blk_set b2 3 _
 have n3 := n2.setq hpw hp0 hpp 3 (.string ⟨#[]⟩)
 have b4 : (((((w6.setCell ⟨p2, 0, none⟩ (.int .i64 3)).setCell ⟨p2, 1, none⟩ (.int .i64 s)).setCell ⟨p2, 2, none⟩ (.bool false)).setCell ⟨p2, 3, none⟩ (.string ⟨#[]⟩)).setCell ⟨p2, 4, none⟩ (.int .i64 0)).heap[p2]? = some (.cells #[(.int .i64 3), (.int .i64 s), (.bool false), (.string ⟨#[]⟩), (.int .i64 0), (.int .i64 0), (.int .i64 0), (.string ⟨#[]⟩), (.int .u64 0), (.slice none 0 0)] TF (0, 0)) := blk_set b3 4 _
 have n4 := n3.setq hpw hp0 hpp 4 (.int .i64 0)
 have b5 : ((((((w6.setCell ⟨p2, 0, none⟩ (.int .i64 3)).setCell ⟨p2, 1, none⟩ (.int .i64 s)).setCell ⟨p2, 2, none⟩ (.bool false)).setCell ⟨p2, 3, none⟩ (.string ⟨#[]⟩)).setCell ⟨p2, 4, none⟩ (.int .i64 0)).setCell ⟨p2, 5, none⟩ (.int .i64 0)).heap[p2]? = some (.cells #[(.int .i64 3), (.int .i64 s), (.bool false), (.string ⟨#[]⟩), (.int .i64 0), (.int .i64 0), (.int .i64 0), (.string ⟨#[]⟩), (.int .u64 0), (.slice none 0 0)] TF (0, 0)) := blk_set b4 5 _
 have n5 := n4.setq hpw hp0 hpp 5 (.int .i64 0)
 have b6 : (((((((w6.setCell ⟨p2, 0, none⟩ (.int .i64 3)).setCell ⟨p2, 1, none⟩ (.int .i64 s)).setCell ⟨p2, 2, none⟩ (.bool false)).setCell ⟨p2, 3, none⟩ (.string ⟨#[]⟩)).setCell ⟨p2, 4, none⟩ (.int .i64 0)).setCell ⟨p2, 5, none⟩ (.int .i64 0)).setCell ⟨p2, 6, none⟩ (.int .i64 0)).heap[p2]? = some (.cells #[(.int .i64 3), (.int .i64 s), (.bool false), (.string ⟨#[]⟩), (.int .i64 0), (.int .i64 0), (.int .i64 0), (.string ⟨#[]⟩), (.int .u64 0), (.slice none 0 0)] TF (0, 0)) := blk_set b5 6 _
 have n6 := n5.setq hpw hp0 hpp 6 (.int .i64 0)
 have b7 : ((((((((w6.setCell ⟨p2, 0, none⟩ (.int .i64 3)).setCell ⟨p2, 1, none⟩ (.int .i64 s)).setCell ⟨p2, 2, none⟩ (.bool false)).setCell ⟨p2, 3, none⟩ (.string ⟨#[]⟩)).setCell ⟨p2, 4, none⟩ (.int .i64 0)).setCell ⟨p2, 5, none⟩ (.int .i64 0)).setCell ⟨p2, 6, none⟩ (.int .i64 0)).setCell ⟨p2, 7, none⟩ (.string ⟨#[]⟩)).heap[p2]? = some (.cells #[(.int .i64 3), (.int .i64 s), (.bool false), (.string ⟨#[]⟩), (.int .i64 0), (.int .i64 0), (.int .i64 0), (.string ⟨#[]⟩), (.int .u64 0), (.slice none 0 0)] TF (0, 0)) := blk_set b6 7 _
 have n7 := n6.setq hpw hp0 hpp 7 (.string ⟨#[]⟩)
 have b8 : (((((((((w6.setCell ⟨p2, 0, none⟩ (.int .i64 3)).setCell ⟨p2, 1, none⟩ (.int .i64 s)).setCell ⟨p2, 2, none⟩ (.bool false)).setCell ⟨p2, 3, none⟩ (.string ⟨#[]⟩)).setCell ⟨p2, 4, none⟩ (.int .i64 0)).setCell ⟨p2, 5, none⟩ (.int .i64 0)).setCell ⟨p2, 6, none⟩ (.int .i64 0)).setCell ⟨p2, 7, none⟩ (.string ⟨#[]⟩)).setCell ⟨p2, 8, none⟩ (.int .u64 0)).heap[p2]? = some (.cells #[(.int .i64 3), (.int .i64 s), (.bool false), (.string ⟨#[]⟩), (.int .i64 0), (.int .i64 0), (.int .i64 0), (.string ⟨#[]⟩), (.int .u64 0), (.slice none 0 0)] TF (0, 0)) := blk_set b7 8 _
 have n8 := n7.setq hpw hp0 hpp 8 (.int .u64 0)
 have b9 : ((((((((((w6.setCell ⟨p2, 0, none⟩ (.int .i64 3)).setCell ⟨p2, 1, none⟩ (.int .i64 s)).setCell ⟨p2, 2, none⟩ (.bool false)).setCell ⟨p2, 3, none⟩ (.string ⟨#[]⟩)).setCell ⟨p2, 4, none⟩ (.int .i64 0)).setCell ⟨p2, 5, none⟩ (.int .i64 0)).setCell ⟨p2, 6, none⟩ (.int .i64 0)).setCell ⟨p2, 7, none⟩ (.string ⟨#[]⟩)).setCell ⟨p2, 8, none⟩ (.int .u64 0)).setCell ⟨p2, 9, none⟩ (.slice B m mc)).heap[p2]? = some (.cells #[(.int .i64 3), (.int .i64 s), (.bool false), (.string ⟨#[]⟩), (.int .i64 0), (.int .i64 0), (.int .i64 0), (.string ⟨#[]⟩), (.int .u64 0), (.slice B m mc)] TF (0, 0)) := blk_set b8 9 _
 have n9 := n8.setq hpw hp0 hpp 9 (.slice B m mc)
 generalize hwf : ((((((((((w6.setCell ⟨p2, 0, none⟩ (.int .i64 3)).setCell ⟨p2, 1, none⟩ (.int .i64 s)).setCell ⟨p2, 2, none⟩ (.bool false)).setCell ⟨p2, 3, none⟩ (.string ⟨#[]⟩)).setCell ⟨p2, 4, none⟩ (.int .i64 0)).setCell ⟨p2, 5, none⟩ (.int .i64 0)).setCell ⟨p2, 6, none⟩ (.int .i64 0)).setCell ⟨p2, 7, none⟩ (.string ⟨#[]⟩)).setCell ⟨p2, 8, none⟩ (.int .u64 0)).setCell ⟨p2, 9, none⟩ (.slice B m mc)) = wf at b9 n9 ⊢
 clear b0 n0 b1 n1 b2 n2 b3 n3 b4 n4 b5 n5 b6 n6 b7 n7 b8 n8
 refine bodyPost_ret (results_ct rfl _ _ p2 TF #[(.int .i64 3), (.int .i64 s), (.bool false), (.string ⟨#[]⟩), (.int .i64 0), (.int .i64 0), (.int .i64 0), (.string ⟨#[]⟩), (.int .u64 0), (.slice B m mc)] (0, 0) _ rfl b9 Try.underlying60 rfl (by kernel_rfl)) rfl ?_
 exact ⟨rfl, n9⟩
set_option maxHeartbeats 8000000 in
theorem next_delta (s : Int) (A : Option Addr) (cc : Nat) (tok at_ dg c0 c1 c2 c3 : Int) (B : Option Addr) (m mc : Nat) (now : Int) (p : Nat) (w0 w : World) (hB : Below w0.heap.size w0 w) (hp : w0.heap.size ≤ p) (hs0 : 0 ≤ s) (hs : s < 1099511627776) (x : Ch) (l : List Ch) (ok : Nat → Prop) (hok : ∀ k, ok k → k ≠ p) (hnew : ∀ k, w.heap.size ≤ k → ok k) (hv : Kd.V kCh 34 w 0 ok (.slice A (x :: l).length cc) (x :: l))
  (tp : w.heap[p]? = some (.cells (tc s (.slice A (x :: l).length cc) false tok at_ false dg c0 c1 c2 c3 (.slice B m mc) now) TT (0, 0))) :
  Calls Try.prog 52 #[.pointer (some ⟨p, 0, none⟩)] w fun e w' => ∃ A' c', e = .returned (.tuple #[.agg #[(.int .i64 1), (.int .i64 s), (.bool x.f1), (.string x.f0), (.int .i64 x.f2.f0), (.int .i64 x.f2.f1), (.int .i64 x.f2.f2), (.string x.f2.f3), (.int .u64 0), (.slice none 0 0)], .bool true]) ∧ Next w0 w w' p (tc (s + 1) (.slice A' l.length c') false tok at_ false dg c0 c1 c2 c3 (.slice B m mc) now) ∧ Kd.V kCh 34 w' 0 ok (.slice A' l.length c') l := by
 have r0 := (blk_cell tp 0).trans rfl
 have hpl := blk_lt tp
 go_enter Try.func52, Try.ntmps52
 go_upto_region 1 with (fail)
 generalize hg : World.alloc _ _ = w1
 have hb1 := al_below hg
 have T2 := al_new hg
 have tp1 := blk_below tp hb1
 have hB1 := below_step hB hb1
 have hwz := hB.size
 have r0' := pw_cell_below hb1 r0
 clear hg r0 hB
 obtain ⟨p2, hp2⟩ : ∃ x, x = w.heap.size := ⟨_, rfl⟩
 rw [← hp2] at T2
 rw [← hp2]
 have hlt2 := blk_lt T2
 go_upto_region 2 with (fail)
 generalize hg : World.alloc _ _ = w2
 have hb2 := al_below hg
 have T4 := al_new hg
 have tp2 := blk_below tp1 hb2
 have T2' := blk_below T2 hb2
 have hB2 := below_step hB1 hb2
 have hbw := below_step hb1 hb2
 clear hg r0' hB1 tp1 T2
 obtain ⟨q, hq⟩ : ∃ x, x = w1.heap.size := ⟨_, rfl⟩
 rw [← hq] at T4
 rw [← hq]
 have hne : p ≠ q := by omega
 have hq0 : w0.heap.size ≤ q := by omega
 have hqw : w.heap.size ≤ q := by omega
 have hpq : p2 ≠ q := by omega
 have hpp : p ≠ p2 := by omega
 have hpw : w.heap.size ≤ p2 := by omega
 have hp0 : w0.heap.size ≤ p2 := by omega
 have hqp : ∀ k, k < w.heap.size → k ≠ q ∧ k ≠ p2 := fun k hk => ⟨by omega, by omega⟩
 clear hq hp2 hlt2 hwz
 have hv2 := Kd.V_below hv hbw
 go_wp2
 refine wp_loop_rounds 4 ?_
 rw [rounds_succ]
 go_wp2_with fail
 refine (snapshot_no s _ false tok at_ dg c0 c1 c2 c3 _ now p q w2 tp2).mono ?_
 rintro e w3 ⟨rfl, rfl⟩
 go_wp2
 rw [rounds_succ]
 go_wp2_with fail
 have hvq : Kd.V kCh 34 w3 w3.heap.size (fun k => ok k ∧ k ≠ q ∧ k ≠ p2) (.slice A (x :: l).length cc) (x :: l) := Kd.V_mono (Kd.V_below (Kd.V_bound hv) hbw) (fun k hk => ⟨hk.1, (hqp k hk.2).1, (hqp k hk.2).2⟩)
 refine (delta_yes s A 0 cc false tok at_ false dg c0 c1 c2 c3 B m mc now s 0 false ⟨#[]⟩ 0 0 0 ⟨#[]⟩ (.slice none 0 0) 0 p q w0 w3 hB2 hp hq0 hne x l tp2 T4 (fun k => ok k ∧ k ≠ q ∧ k ≠ p2) (fun k h => ⟨hok k h.1, h.2.1⟩) (fun k h => by have h2 := blk_lt T4; have h3 := blk_lt T2'; have h4 := hbw.size; exact ⟨hnew k (by omega), by omega, by omega⟩) hvq).mono ?_
 rintro e w4 ⟨rfl, A', c', H, hV⟩
 have T2n := (H.keep p2 (blk_lt T2') (fun e => hpp e.symm) hpq).trans T2'
 have Tq := H.tq
 have HN := Next.of H hbw hqw
 clear H T2' T4 hB2 hbw
 have hw : wrap64 (s + 1) = s + 1 := by unfold wrap64; omega
 have r0 := (blk_cell HN.tp 0).trans rfl
 have z0 := blk_frozen HN.tp 0
 go_upto_region 7 with (fail)
 have HN2 := HN.setp hp 0 (.int .i64 (s + 1))
 have Tq2 := blk_far Tq (p := ⟨p, 0, none⟩) (fun e => hne e.symm) (.int .i64 (s + 1))
 have T22 := blk_far T2n (p := ⟨p, 0, none⟩) (fun e => hpp e.symm) (.int .i64 (s + 1))
 have hV2 := Kd.V_far hV (p := ⟨p, 0, none⟩) (fun k hk => hok k hk.1) (.int .i64 (s + 1))
 generalize w4.setCell ⟨p, 0, none⟩ (.int .i64 (s + 1)) = w6 at HN2 Tq2 T22 hV2 ⊢
 clear HN Tq T2n r0 z0 hV
 have y0 := (blk_cell Tq2 0).trans rfl
 have y1 := (blk_cell Tq2 1).trans rfl
 have y2 := (blk_cell Tq2 2).trans rfl
 have y3 := (blk_cell Tq2 3).trans rfl
 have y4 := (blk_cell Tq2 4).trans rfl
 have y5 := (blk_cell Tq2 5).trans rfl
 have y6 := (blk_cell Tq2 6).trans rfl
 have y7 := (blk_cell Tq2 7).trans rfl
 have y8 := (blk_cell Tq2 8).trans rfl
 have y9 := (blk_cell Tq2 9).trans rfl
 have k0 := (blk_cell T22 0).trans rfl
 have z0 := blk_frozen T22 0
 have k1 := (blk_cell T22 1).trans rfl
 have z1 := blk_frozen T22 1
 have k2 := (blk_cell T22 2).trans rfl
 have z2 := blk_frozen T22 2
 have k3 := (blk_cell T22 3).trans rfl
 have z3 := blk_frozen T22 3
 have k4 := (blk_cell T22 4).trans rfl
 have z4 := blk_frozen T22 4
 have k5 := (blk_cell T22 5).trans rfl
 have z5 := blk_frozen T22 5
 have k6 := (blk_cell T22 6).trans rfl
 have z6 := blk_frozen T22 6
 have k7 := (blk_cell T22 7).trans rfl
 have z7 := blk_frozen T22 7
 have k8 := (blk_cell T22 8).trans rfl
 have z8 := blk_frozen T22 8
 have k9 := (blk_cell T22 9).trans rfl
 have z9 := blk_frozen T22 9
 go_wp2
 have b0 : (w6.setCell ⟨p2, 0, none⟩ (.int .i64 1)).heap[p2]? = some (.cells #[(.int .i64 1), (.int .i64 0), (.bool false), (.string ⟨#[]⟩), (.int .i64 0), (.int .i64 0), (.int .i64 0), (.string ⟨#[]⟩), (.int .u64 0), (.slice none 0 0)] TF (0, 0)) := blk_set T22 0 _
 have n0 := HN2.setq hpw hp0 hpp 0 (.int .i64 1)
 have v0 := Kd.V_far hV2 (p := ⟨p2, 0, none⟩) (fun k hk => hk.2.2) (.int .i64 1)
 have b1 : ((w6.setCell ⟨p2, 0, none⟩ (.int .i64 1)).setCell ⟨p2, 1, none⟩ (.int .i64 s)).heap[p2]? = some (.cells #[(.int .i64 1), (.int .i64 s), (.bool false), (.string ⟨#[]⟩), (.int .i64 0), (.int .i64 0), (.int .i64 0), (.string ⟨#[]⟩), (.int .u64 0), (.slice none 0 0)] TF (0, 0)) := blk_set b0 1 _
 have n1 := n0.setq hpw hp0 hpp 1 (.int .i64 s)
 have v1 := Kd.V_far v0 (p := ⟨p2, 1, none⟩) (fun k hk => hk.2.2) (.int .i64 s)
 have b2 : (((w6.setCell ⟨p2, 0, none⟩ (.int .i64 1)).setCell ⟨p2, 1, none⟩ (.int .i64 s)).setCell ⟨p2, 2, none⟩ (.bool x.f1)).heap[p2]? = some (.cells #[(.int .i64 1), (.int .i64 s), (.bool x.f1), (.string ⟨#[]⟩), (.int .i64 0), (.int .i64 0), (.int .i64 0), (.string ⟨#[]⟩), (.int .u64 0), (.slice none 0 0)] TF (0, 0)) := blk_set b1 2 _
 have n2 := n1.setq hpw hp0 hpp 2 (.bool x.f1)
 have v2 := Kd.V_far v1 (p := ⟨p2, 2, none⟩) (fun k hk => hk.2.2) (.bool x.f1)
 have b3 : ((((w6.setCell ⟨p2, 0, none⟩ (.int .i64 1)).setCell ⟨p2, 1, none⟩ (.int .i64 s)).setCell ⟨p2, 2, none⟩ (.bool x.f1)).setCell ⟨p2, 3, none⟩ (.string x.f0)).heap[p2]? = some (.cells #[(.int .i64 1), (.int .i64 s), (.bool x.f1), (.string x.f0), (.int .i64 0), (.int .i64 0), (.int .i64 0), (.string ⟨#[]⟩), (.int .u64 0), (.slice none 0 0)] TF (0, 0)) := blk_set b2 3 _
 have n3 := n2.setq hpw hp0 hpp 3 (.string x.f0)
 have v3 := Kd.V_far v2 (p := ⟨p2, 3, none⟩) (fun k hk => hk.2.2) (.string x.f0)
 have b4 : (((((w6.setCell ⟨p2, 0, none⟩ (.int .i64 1)).setCell ⟨p2, 1, none⟩ (.int .i64 s)).setCell ⟨p2, 2, none⟩ (.bool x.f1)).setCell ⟨p2, 3, none⟩ (.string x.f0)).setCell ⟨p2, 4, none⟩ (.int .i64 x.f2.f0)).heap[p2]? = some (.cells #[(.int .i64 1), (.int .i64 s), (.bool x.f1), (.string x.f0), (.int .i64 x.f2.f0), (.int .i64 0), (.int .i64 0), (.string ⟨#[]⟩), (.int .u64 0), (.slice none 0 0)] TF (0, 0)) := blk_set b3 4 _
 have n4 := n3.setq hpw hp0 hpp 4 (.int .i64 x.f2.f0)
 have v4 := Kd.V_far v3 (p := ⟨p2, 4, none⟩) (fun k hk => hk.2.2) (.int .i64 x.f2.f0)
 have b5 : ((((((w6.setCell ⟨p2, 0, none⟩ (.int .i64 1)).setCell ⟨p2, 1, none⟩ (.int .i64 s)).setCell ⟨p2, 2, none⟩ (.bool x.f1)).setCell ⟨p2, 3, none⟩ (.string x.f0)).setCell ⟨p2, 4, none⟩ (.int .i64 x.f2.f0)).setCell ⟨p2, 5, none⟩ (.int .i64 x.f2.f1)).heap[p2]? = some (.cells #[(.int .i64 1), (.int .i64 s), (.bool x.f1), (.string x.f0), (.int .i64 x.f2.f0), (.int .i64 x.f2.f1), (.int .i64 0), (.string ⟨#[]⟩), (.int .u64 0), (.slice none 0 0)] TF (0, 0)) := blk_set b4 5 _
 have n5 := n4.setq hpw hp0 hpp 5 (.int .i64 x.f2.f1)
 have v5 := Kd.V_far v4 (p := ⟨p2, 5, none⟩) (fun k hk => hk.2.2) (.int .i64 x.f2.f1)
 have b6 : (((((((w6.setCell ⟨p2, 0, none⟩ (.int .i64 1)).setCell ⟨p2, 1, none⟩ (.int .i64 s)).setCell ⟨p2, 2, none⟩ (.bool x.f1)).setCell ⟨p2, 3, none⟩ (.string x.f0)).setCell ⟨p2, 4, none⟩ (.int .i64 x.f2.f0)).setCell ⟨p2, 5, none⟩ (.int .i64 x.f2.f1)).setCell ⟨p2, 6, none⟩ (.int .i64 x.f2.f2)).heap[p2]? = some (.cells #[(.int .i64 1), (.int .i64 s), (.bool x.f1), (.string x.f0), (.int .i64 x.f2.f0), (.int .i64 x.f2.f1), (.int .i64 x.f2.f2), (.string ⟨#[]⟩), (.int .u64 0), (.slice none 0 0)] TF (0, 0)) := blk_set b5 6 _
 have n6 := n5.setq hpw hp0 hpp 6 (.int .i64 x.f2.f2)
 have v6 := Kd.V_far v5 (p := ⟨p2, 6, none⟩) (fun k hk => hk.2.2) (.int .i64 x.f2.f2)
 have b7 : ((((((((w6.setCell ⟨p2, 0, none⟩ (.int .i64 1)).setCell ⟨p2, 1, none⟩ (.int .i64 s)).setCell ⟨p2, 2, none⟩ (.bool x.f1)).setCell ⟨p2, 3, none⟩ (.string x.f0)).setCell ⟨p2, 4, none⟩ (.int .i64 x.f2.f0)).setCell ⟨p2, 5, none⟩ (.int .i64 x.f2.f1)).setCell ⟨p2, 6, none⟩ (.int .i64 x.f2.f2)).setCell ⟨p2, 7, none⟩ (.string x.f2.f3)).heap[p2]? = some (.cells #[(.int .i64 1), (.int .i64 s), (.bool x.f1), (.string x.f0), (.int .i64 x.f2.f0), (.int .i64 x.f2.f1), (.int .i64 x.f2.f2), (.string x.f2.f3), (.int .u64 0), (.slice none 0 0)] TF (0, 0)) := blk_set b6 7 _
 have n7 := n6.setq hpw hp0 hpp 7 (.string x.f2.f3)
 have v7 := Kd.V_far v6 (p := ⟨p2, 7, none⟩) (fun k hk => hk.2.2) (.string x.f2.f3)
 have b8 : (((((((((w6.setCell ⟨p2, 0, none⟩ (.int .i64 1)).setCell ⟨p2, 1, none⟩ (.int .i64 s)).setCell ⟨p2, 2, none⟩ (.bool x.f1)).setCell ⟨p2, 3, none⟩ (.string x.f0)).setCell ⟨p2, 4, none⟩ (.int .i64 x.f2.f0)).setCell ⟨p2, 5, none⟩ (.int .i64 x.f2.f1)).setCell ⟨p2, 6, none⟩ (.int .i64 x.f2.f2)).setCell ⟨p2, 7, none⟩ (.string x.f2.f3)).setCell ⟨p2, 8, none⟩ (.int .u64 0)).heap[p2]? = some (.cells #[(.int .i64 1), (.int .i64 s), (.bool x.f1), (.string x.f0), (.int .i64 x.f2.f0), (.int .i64 x.f2.f1), (.int .i64 x.f2.f2), (.string x.f2.f3), (.int .u64 0), (.slice none 0 0)] TF (0, 0)) := blk_set b7 8 _
 have n8 := n7.setq hpw hp0 hpp 8 (.int .u64 0)
 have v8 := Kd.V_far v7 (p := ⟨p2, 8, none⟩) (fun k hk => hk.2.2) (.int .u64 0)
 have b9 : ((((((((((w6.setCell ⟨p2, 0, none⟩ (.int .i64 1)).setCell ⟨p2, 1, none⟩ (.int .i64 s)).setCell ⟨p2, 2, none⟩ (.bool x.f1)).setCell ⟨p2, 3, none⟩ (.string x.f0)).setCell ⟨p2, 4, none⟩ (.int .i64 x.f2.f0)).setCell ⟨p2, 5, none⟩ (.int .i64 x.f2.f1)).setCell ⟨p2, 6, none⟩ (.int .i64 x.f2.f2)).setCell ⟨p2, 7, none⟩ (.string x.f2.f3)).setCell ⟨p2, 8, none⟩ (.int .u64 0)).setCell ⟨p2, 9, none⟩ (.slice none 0 0)).heap[p2]? = some (.cells #[(.int .i64 1), (.int .i64 s), (.bool x.f1), (.string x.f0), (.int .i64 x.f2.f0), (.int .i64 x.f2.f1), (.int .i64 x.f2.f2), (.string x.f2.f3), (.int .u64 0), (.slice none 0 0)] TF (0, 0)) := blk_set b8 9 _
 have n9 := n8.setq hpw hp0 hpp 9 (.slice none 0 0)
 have v9 := Kd.V_far v8 (p := ⟨p2, 9, none⟩) (fun k hk => hk.2.2) (.slice none 0 0)
 generalize hwf : ((((((((((w6.setCell ⟨p2, 0, none⟩ (.int .i64 1)).setCell ⟨p2, 1, none⟩ (.int .i64 s)).setCell ⟨p2, 2, none⟩ (.bool x.f1)).setCell ⟨p2, 3, none⟩ (.string x.f0)).setCell ⟨p2, 4, none⟩ (.int .i64 x.f2.f0)).setCell ⟨p2, 5, none⟩ (.int .i64 x.f2.f1)).setCell ⟨p2, 6, none⟩ (.int .i64 x.f2.f2)).setCell ⟨p2, 7, none⟩ (.string x.f2.f3)).setCell ⟨p2, 8, none⟩ (.int .u64 0)).setCell ⟨p2, 9, none⟩ (.slice none 0 0)) = wf at b9 n9 v9 ⊢
 clear b0 n0 b1 n1 b2 n2 b3 n3 b4 n4 b5 n5 b6 n6 b7 n7 b8 n8 v0 v1 v2 v3 v4 v5 v6 v7 v8
 refine bodyPost_ret (results_ct rfl _ _ p2 TF #[(.int .i64 1), (.int .i64 s), (.bool x.f1), (.string x.f0), (.int .i64 x.f2.f0), (.int .i64 x.f2.f1), (.int .i64 x.f2.f2), (.string x.f2.f3), (.int .u64 0), (.slice none 0 0)] (0, 0) _ rfl b9 Try.underlying60 rfl (by kernel_rfl)) rfl ?_
 exact ⟨A', c', rfl, n9, Kd.V_mono v9 (fun k hk => hk.1)⟩
set_option maxHeartbeats 8000000 in
theorem next_digest (s : Int) (A : Option Addr) (cc : Nat) (tok at_ dg c0 c1 c2 c3 : Int) (B : Option Addr) (mc : Nat) (now : Int) (p : Nat) (w0 w : World) (hB : Below w0.heap.size w0 w) (hp : w0.heap.size ≤ p) (hs0 : 0 ≤ s) (hs : s < 1099511627776) (hv : Kd.V kCh 34 w 0 (fun k => k ≠ p) (.slice A 0 cc) []) (h0 : 0 ≤ dg) (h1 : dg ≤ 1099511627776) (h2 : 0 ≤ now) (h3 : now ≤ 1099511627776) (hd : c3 ≤ now - dg) (k0 : Nat) (t : List Se) (hl : t.length ≤ 40) (hm : digest_May.f k0 t = some true) (hz : ∀ x ∈ t, x.f0.size ≤ 9223372036854775807) (hvt : Kd.V kSe 72 w 0 (fun k => k ≠ p) (.slice B t.length mc) t)
  (tp : w.heap[p]? = some (.cells (tc s (.slice A 0 cc) false tok at_ false dg c0 c1 c2 c3 (.slice B t.length mc) now) TT (0, 0))) :
  Calls Try.prog 52 #[.pointer (some ⟨p, 0, none⟩)] w fun e w' => e = .returned (.tuple #[.agg #[(.int .i64 2), (.int .i64 s), (.bool false), (.string ⟨#[]⟩), (.int .i64 0), (.int .i64 0), (.int .i64 0), (.string ⟨#[]⟩), (.int .u64 (sumB t)), (.slice none 0 0)], .bool true]) ∧ Next w0 w w' p (tc (s + 1) (.slice A 0 cc) false tok at_ false now c0 c1 c2 c3 (.slice B t.length mc) now) := by
 have r0 := (blk_cell tp 0).trans rfl
 have hpl := blk_lt tp
 go_enter Try.func52, Try.ntmps52
 go_upto_region 1 with (fail)
 generalize hg : World.alloc _ _ = w1
 have hb1 := al_below hg
 have T2 := al_new hg
 have tp1 := blk_below tp hb1
 have hB1 := below_step hB hb1
 have hwz := hB.size
 have r0' := pw_cell_below hb1 r0
 clear hg r0 hB
 obtain ⟨p2, hp2⟩ : ∃ x, x = w.heap.size := ⟨_, rfl⟩
 rw [← hp2] at T2
 rw [← hp2]
 have hlt2 := blk_lt T2
 go_upto_region 2 with (fail)
 generalize hg : World.alloc _ _ = w2
 have hb2 := al_below hg
 have T4 := al_new hg
 have tp2 := blk_below tp1 hb2
 have T2' := blk_below T2 hb2
 have hB2 := below_step hB1 hb2
 have hbw := below_step hb1 hb2
 clear hg r0' hB1 tp1 T2
 obtain ⟨q, hq⟩ : ∃ x, x = w1.heap.size := ⟨_, rfl⟩
 rw [← hq] at T4
 rw [← hq]
 have hne : p ≠ q := by omega
 have hq0 : w0.heap.size ≤ q := by omega
 have hqw : w.heap.size ≤ q := by omega
 have hpq : p2 ≠ q := by omega
 have hpp : p ≠ p2 := by omega
 have hpw : w.heap.size ≤ p2 := by omega
 have hp0 : w0.heap.size ≤ p2 := by omega
 have hqp : ∀ k, k < w.heap.size → k ≠ q ∧ k ≠ p2 := fun k hk => ⟨by omega, by omega⟩
 clear hq hp2 hlt2 hwz
 have hv2 := Kd.V_below hv hbw
 have hvt2 := Kd.V_below hvt hbw
 go_wp2
 refine wp_loop_rounds 4 ?_
 rw [rounds_succ]
 go_wp2_with fail
 refine (snapshot_no s _ false tok at_ dg c0 c1 c2 c3 _ now p q w2 tp2).mono ?_
 rintro e w3 ⟨rfl, rfl⟩
 go_wp2
 rw [rounds_succ]
 go_wp2_with fail
 refine (delta_no s A cc false tok at_ false dg c0 c1 c2 c3 _ now p q (fun k => k ≠ p) w3 tp2 hv2).mono ?_
 rintro e w4 ⟨rfl, hb⟩
 have tp4 := blk_below tp2 hb
 have T44 := blk_below T4 hb
 have T24 := blk_below T2' hb
 have hB4 := below_step hB2 hb
 have hbw4 := below_step hbw hb
 have hvt4 := Kd.V_below hvt2 hb
 clear hb tp2 T4 T2' hB2 hbw
 go_wp2
 rw [rounds_succ]
 go_wp2_with fail
 refine (digest_yes s A 0 cc false tok at_ false dg c0 c1 c2 c3 B mc now s 0 h0 h1 h2 h3 hd false ⟨#[]⟩ 0 0 0 ⟨#[]⟩ (.slice none 0 0) 0 p q w0 w4 hB4 hp hq0 hne k0 t hl hm hz tp4 T44 hvt4).mono ?_
 rintro e w5 ⟨rfl, H⟩
 have T2n := (H.keep p2 (blk_lt T24) (fun e => hpp e.symm) hpq).trans T24
 have Tq := H.tq
 have HN := Next.of H hbw4 hqw
 clear H T24 T44 hB4 hbw4
 have hw : wrap64 (s + 1) = s + 1 := by unfold wrap64; omega
 have r0 := (blk_cell HN.tp 0).trans rfl
 have z0 := blk_frozen HN.tp 0
 go_upto_region 7 with (fail)
 have HN2 := HN.setp hp 0 (.int .i64 (s + 1))
 have Tq2 := blk_far Tq (p := ⟨p, 0, none⟩) (fun e => hne e.symm) (.int .i64 (s + 1))
 have T22 := blk_far T2n (p := ⟨p, 0, none⟩) (fun e => hpp e.symm) (.int .i64 (s + 1))
 generalize w5.setCell ⟨p, 0, none⟩ (.int .i64 (s + 1)) = w6 at HN2 Tq2 T22 ⊢
 clear HN Tq T2n r0 z0
 have y0 := (blk_cell Tq2 0).trans rfl
 have y1 := (blk_cell Tq2 1).trans rfl
 have y2 := (blk_cell Tq2 2).trans rfl
 have y3 := (blk_cell Tq2 3).trans rfl
 have y4 := (blk_cell Tq2 4).trans rfl
 have y5 := (blk_cell Tq2 5).trans rfl
 have y6 := (blk_cell Tq2 6).trans rfl
 have y7 := (blk_cell Tq2 7).trans rfl
 have y8 := (blk_cell Tq2 8).trans rfl
 have y9 := (blk_cell Tq2 9).trans rfl
 have k0 := (blk_cell T22 0).trans rfl
 have z0 := blk_frozen T22 0
 have k1 := (blk_cell T22 1).trans rfl
 have z1 := blk_frozen T22 1
 have k2 := (blk_cell T22 2).trans rfl
 have z2 := blk_frozen T22 2
 have k3 := (blk_cell T22 3).trans rfl
 have z3 := blk_frozen T22 3
 have k4 := (blk_cell T22 4).trans rfl
 have z4 := blk_frozen T22 4
 have k5 := (blk_cell T22 5).trans rfl
 have z5 := blk_frozen T22 5
 have k6 := (blk_cell T22 6).trans rfl
 have z6 := blk_frozen T22 6
 have k7 := (blk_cell T22 7).trans rfl
 have z7 := blk_frozen T22 7
 have k8 := (blk_cell T22 8).trans rfl
 have z8 := blk_frozen T22 8
 have k9 := (blk_cell T22 9).trans rfl
 have z9 := blk_frozen T22 9
 go_wp2
 have b0 : (w6.setCell ⟨p2, 0, none⟩ (.int .i64 2)).heap[p2]? = some (.cells #[(.int .i64 2), (.int .i64 0), (.bool false), (.string ⟨#[]⟩), (.int .i64 0), (.int .i64 0), (.int .i64 0), (.string ⟨#[]⟩), (.int .u64 0), (.slice none 0 0)] TF (0, 0)) := blk_set T22 0 _
 have n0 := HN2.setq hpw hp0 hpp 0 (.int .i64 2)
 have b1 : ((w6.setCell ⟨p2, 0, none⟩ (.int .i64 2)).setCell ⟨p2, 1, none⟩ (.int .i64 s)).heap[p2]? = some (.cells #[(.int .i64 2), (.int .i64 s), (.bool false), (.string ⟨#[]⟩), (.int .i64 0), (.int .i64 0), (.int .i64 0), (.string ⟨#[]⟩), (.int .u64 0), (.slice none 0 0)] TF (0, 0)) := blk_set b0 1 _
 have n1 := n0.setq hpw hp0 hpp 1 (.int .i64 s)
 have b2 : (((w6.setCell ⟨p2, 0, none⟩ (.int .i64 2)).setCell ⟨p2, 1, none⟩ (.int .i64 s)).setCell ⟨p2, 2, none⟩ (.bool false)).heap[p2]? = some (.cells #[(.int .i64 2), (.int .i64 s), (.bool false), (.string ⟨#[]⟩), (.int .i64 0), (.int .i64 0), (.int .i64 0), (.string ⟨#[]⟩), (.int .u64 0), (.slice none 0 0)] TF (0, 0)) := blk_set b1 2 _
 have n2 := n1.setq hpw hp0 hpp 2 (.bool false)
 have b3 : ((((w6.setCell ⟨p2, 0, none⟩ (.int .i64 2)).setCell ⟨p2, 1, none⟩ (.int .i64 s)).setCell ⟨p2, 2, none⟩ (.bool false)).setCell ⟨p2, 3, none⟩ (.string ⟨#[]⟩)).heap[p2]? = some (.cells #[(.int .i64 2), (.int .i64 s), (.bool false), (.string ⟨#[]⟩), (.int .i64 0), (.int .i64 0), (.int .i64 0), (.string ⟨#[]⟩), (.int .u64 0), (.slice none 0 0)] TF (0, 0)) := blk_set b2 3 _
 have n3 := n2.setq hpw hp0 hpp 3 (.string ⟨#[]⟩)
 have b4 : (((((w6.setCell ⟨p2, 0, none⟩ (.int .i64 2)).setCell ⟨p2, 1, none⟩ (.int .i64 s)).setCell ⟨p2, 2, none⟩ (.bool false)).setCell ⟨p2, 3, none⟩ (.string ⟨#[]⟩)).setCell ⟨p2, 4, none⟩ (.int .i64 0)).heap[p2]? = some (.cells #[(.int .i64 2), (.int .i64 s), (.bool false), (.string ⟨#[]⟩), (.int .i64 0), (.int .i64 0), (.int .i64 0), (.string ⟨#[]⟩), (.int .u64 0), (.slice none 0 0)] TF (0, 0)) := blk_set b3 4 _
 have n4 := n3.setq hpw hp0 hpp 4 (.int .i64 0)
 have b5 : ((((((w6.setCell ⟨p2, 0, none⟩ (.int .i64 2)).setCell ⟨p2, 1, none⟩ (.int .i64 s)).setCell ⟨p2, 2, none⟩ (.bool false)).setCell ⟨p2, 3, none⟩ (.string ⟨#[]⟩)).setCell ⟨p2, 4, none⟩ (.int .i64 0)).setCell ⟨p2, 5, none⟩ (.int .i64 0)).heap[p2]? = some (.cells #[(.int .i64 2), (.int .i64 s), (.bool false), (.string ⟨#[]⟩), (.int .i64 0), (.int .i64 0), (.int .i64 0), (.string ⟨#[]⟩), (.int .u64 0), (.slice none 0 0)] TF (0, 0)) := blk_set b4 5 _
 have n5 := n4.setq hpw hp0 hpp 5 (.int .i64 0)
 have b6 : (((((((w6.setCell ⟨p2, 0, none⟩ (.int .i64 2)).setCell ⟨p2, 1, none⟩ (.int .i64 s)).setCell ⟨p2, 2, none⟩ (.bool false)).setCell ⟨p2, 3, none⟩ (.string ⟨#[]⟩)).setCell ⟨p2, 4, none⟩ (.int .i64 0)).setCell ⟨p2, 5, none⟩ (.int .i64 0)).setCell ⟨p2, 6, none⟩ (.int .i64 0)).heap[p2]? = some (.cells #[(.int .i64 2), (.int .i64 s), (.bool false), (.string ⟨#[]⟩), (.int .i64 0), (.int .i64 0), (.int .i64 0), (.string ⟨#[]⟩), (.int .u64 0), (.slice none 0 0)] TF (0, 0)) := blk_set b5 6 _
 have n6 := n5.setq hpw hp0 hpp 6 (.int .i64 0)
 have b7 : ((((((((w6.setCell ⟨p2, 0, none⟩ (.int .i64 2)).setCell ⟨p2, 1, none⟩ (.int .i64 s)).setCell ⟨p2, 2, none⟩ (.bool false)).setCell ⟨p2, 3, none⟩ (.string ⟨#[]⟩)).setCell ⟨p2, 4, none⟩ (.int .i64 0)).setCell ⟨p2, 5, none⟩ (.int .i64 0)).setCell ⟨p2, 6, none⟩ (.int .i64 0)).setCell ⟨p2, 7, none⟩ (.string ⟨#[]⟩)).heap[p2]? = some (.cells #[(.int .i64 2), (.int .i64 s), (.bool false), (.string ⟨#[]⟩), (.int .i64 0), (.int .i64 0), (.int .i64 0), (.string ⟨#[]⟩), (.int .u64 0), (.slice none 0 0)] TF (0, 0)) := blk_set b6 7 _
 have n7 := n6.setq hpw hp0 hpp 7 (.string ⟨#[]⟩)
 have b8 : (((((((((w6.setCell ⟨p2, 0, none⟩ (.int .i64 2)).setCell ⟨p2, 1, none⟩ (.int .i64 s)).setCell ⟨p2, 2, none⟩ (.bool false)).setCell ⟨p2, 3, none⟩ (.string ⟨#[]⟩)).setCell ⟨p2, 4, none⟩ (.int .i64 0)).setCell ⟨p2, 5, none⟩ (.int .i64 0)).setCell ⟨p2, 6, none⟩ (.int .i64 0)).setCell ⟨p2, 7, none⟩ (.string ⟨#[]⟩)).setCell ⟨p2, 8, none⟩ (.int .u64 (sumB t))).heap[p2]? = some (.cells #[(.int .i64 2), (.int .i64 s), (.bool false), (.string ⟨#[]⟩), (.int .i64 0), (.int .i64 0), (.int .i64 0), (.string ⟨#[]⟩), (.int .u64 (sumB t)), (.slice none 0 0)] TF (0, 0)) := blk_set b7 8 _
 have n8 := n7.setq hpw hp0 hpp 8 (.int .u64 (sumB t))
 have b9 : ((((((((((w6.setCell ⟨p2, 0, none⟩ (.int .i64 2)).setCell ⟨p2, 1, none⟩ (.int .i64 s)).setCell ⟨p2, 2, none⟩ (.bool false)).setCell ⟨p2, 3, none⟩ (.string ⟨#[]⟩)).setCell ⟨p2, 4, none⟩ (.int .i64 0)).setCell ⟨p2, 5, none⟩ (.int .i64 0)).setCell ⟨p2, 6, none⟩ (.int .i64 0)).setCell ⟨p2, 7, none⟩ (.string ⟨#[]⟩)).setCell ⟨p2, 8, none⟩ (.int .u64 (sumB t))).setCell ⟨p2, 9, none⟩ (.slice none 0 0)).heap[p2]? = some (.cells #[(.int .i64 2), (.int .i64 s), (.bool false), (.string ⟨#[]⟩), (.int .i64 0), (.int .i64 0), (.int .i64 0), (.string ⟨#[]⟩), (.int .u64 (sumB t)), (.slice none 0 0)] TF (0, 0)) := blk_set b8 9 _
 have n9 := n8.setq hpw hp0 hpp 9 (.slice none 0 0)
 generalize hwf : ((((((((((w6.setCell ⟨p2, 0, none⟩ (.int .i64 2)).setCell ⟨p2, 1, none⟩ (.int .i64 s)).setCell ⟨p2, 2, none⟩ (.bool false)).setCell ⟨p2, 3, none⟩ (.string ⟨#[]⟩)).setCell ⟨p2, 4, none⟩ (.int .i64 0)).setCell ⟨p2, 5, none⟩ (.int .i64 0)).setCell ⟨p2, 6, none⟩ (.int .i64 0)).setCell ⟨p2, 7, none⟩ (.string ⟨#[]⟩)).setCell ⟨p2, 8, none⟩ (.int .u64 (sumB t))).setCell ⟨p2, 9, none⟩ (.slice none 0 0)) = wf at b9 n9 ⊢
 clear b0 n0 b1 n1 b2 n2 b3 n3 b4 n4 b5 n5 b6 n6 b7 n7 b8 n8
 refine bodyPost_ret (results_ct rfl _ _ p2 TF #[(.int .i64 2), (.int .i64 s), (.bool false), (.string ⟨#[]⟩), (.int .i64 0), (.int .i64 0), (.int .i64 0), (.string ⟨#[]⟩), (.int .u64 (sumB t)), (.slice none 0 0)] (0, 0) _ rfl b9 Try.underlying60 rfl (by kernel_rfl)) rfl ?_
 exact ⟨rfl, n9⟩
set_option maxHeartbeats 8000000 in
theorem next_none (s : Int) (A : Option Addr) (cc : Nat) (tok at_ dg c0 c1 c2 c3 : Int) (B : Option Addr) (m mc : Nat) (now : Int) (p : Nat) (w0 w : World) (hB : Below w0.heap.size w0 w) (hp : w0.heap.size ≤ p) (hs0 : 0 ≤ s) (hs : s < 1099511627776) (hv : Kd.V kCh 34 w 0 (fun k => k ≠ p) (.slice A 0 cc) []) (h0 : 0 ≤ dg) (h1 : dg ≤ 1099511627776) (h2 : 0 ≤ now) (h3 : now ≤ 1099511627776) (hd : now - dg < c3)
  (tp : w.heap[p]? = some (.cells (tc s (.slice A 0 cc) false tok at_ false dg c0 c1 c2 c3 (.slice B m mc) now) TT (0, 0))) :
  Calls Try.prog 52 #[.pointer (some ⟨p, 0, none⟩)] w fun e w' => e = .returned (.tuple #[.agg #[(.int .i64 0), (.int .i64 0), (.bool false), (.string ⟨#[]⟩), (.int .i64 0), (.int .i64 0), (.int .i64 0), (.string ⟨#[]⟩), (.int .u64 0), (.slice none 0 0)], .bool false]) ∧ Next w0 w w' p (tc s (.slice A 0 cc) false tok at_ false dg c0 c1 c2 c3 (.slice B m mc) now) := by
 have r0 := (blk_cell tp 0).trans rfl
 have hpl := blk_lt tp
 go_enter Try.func52, Try.ntmps52
 go_upto_region 1 with (fail)
 generalize hg : World.alloc _ _ = w1
 have hb1 := al_below hg
 have T2 := al_new hg
 have tp1 := blk_below tp hb1
 have hB1 := below_step hB hb1
 have hwz := hB.size
 have r0' := pw_cell_below hb1 r0
 clear hg r0 hB
 obtain ⟨p2, hp2⟩ : ∃ x, x = w.heap.size := ⟨_, rfl⟩
 rw [← hp2] at T2
 rw [← hp2]
 have hlt2 := blk_lt T2
 go_upto_region 2 with (fail)
 generalize hg : World.alloc _ _ = w2
 have hb2 := al_below hg
 have T4 := al_new hg
 have tp2 := blk_below tp1 hb2
 have T2' := blk_below T2 hb2
 have hB2 := below_step hB1 hb2
 have hbw := below_step hb1 hb2
 clear hg r0' hB1 tp1 T2
 obtain ⟨q, hq⟩ : ∃ x, x = w1.heap.size := ⟨_, rfl⟩
 rw [← hq] at T4
 rw [← hq]
 have hne : p ≠ q := by omega
 have hq0 : w0.heap.size ≤ q := by omega
 have hqw : w.heap.size ≤ q := by omega
 have hpq : p2 ≠ q := by omega
 have hpp : p ≠ p2 := by omega
 have hpw : w.heap.size ≤ p2 := by omega
 have hp0 : w0.heap.size ≤ p2 := by omega
 have hqp : ∀ k, k < w.heap.size → k ≠ q ∧ k ≠ p2 := fun k hk => ⟨by omega, by omega⟩
 clear hq hp2 hlt2 hwz
 have hv2 := Kd.V_below hv hbw
 go_wp2
 refine wp_loop_rounds 4 ?_
 rw [rounds_succ]
 go_wp2_with fail
 refine (snapshot_no s _ false tok at_ dg c0 c1 c2 c3 _ now p q w2 tp2).mono ?_
 rintro e w3 ⟨rfl, rfl⟩
 go_wp2
 rw [rounds_succ]
 go_wp2_with fail
 refine (delta_no s A cc false tok at_ false dg c0 c1 c2 c3 _ now p q (fun k => k ≠ p) w3 tp2 hv2).mono ?_
 rintro e w4 ⟨rfl, hb⟩
 have tp4 := blk_below tp2 hb
 have T44 := blk_below T4 hb
 have T24 := blk_below T2' hb
 have hB4 := below_step hB2 hb
 have hbw4 := below_step hbw hb
 clear hb tp2 T4 T2' hB2 hbw
 go_wp2
 rw [rounds_succ]
 go_wp2_with fail
 refine (digest_no s _ false tok at_ false dg c0 c1 c2 c3 _ now h0 h1 h2 h3 hd p q w4 tp4).mono ?_
 rintro e w5 ⟨rfl, hb⟩
 have tp5 := blk_below tp4 hb
 have T25 := blk_below T24 hb
 have HN : Next w0 w w5 p _ := ⟨below_step hB4 hb, tp5, Nat.le_trans hbw4.size hb.size, fun k h1 h2 => (hb.block k (Nat.lt_of_lt_of_le h1 hbw4.size)).trans (hbw4.block k h1)⟩
 clear hb tp4 T44 T24 hB4 hbw4 hv2 hv h0 h1 h2 h3 hd
 go_wp2
 rw [rounds_succ]
 have k0 := (blk_cell T25 0).trans rfl
 have z0 := blk_frozen T25 0
 have k1 := (blk_cell T25 1).trans rfl
 have z1 := blk_frozen T25 1
 have k2 := (blk_cell T25 2).trans rfl
 have z2 := blk_frozen T25 2
 have k3 := (blk_cell T25 3).trans rfl
 have z3 := blk_frozen T25 3
 have k4 := (blk_cell T25 4).trans rfl
 have z4 := blk_frozen T25 4
 have k5 := (blk_cell T25 5).trans rfl
 have z5 := blk_frozen T25 5
 have k6 := (blk_cell T25 6).trans rfl
 have z6 := blk_frozen T25 6
 have k7 := (blk_cell T25 7).trans rfl
 have z7 := blk_frozen T25 7
 have k8 := (blk_cell T25 8).trans rfl
 have z8 := blk_frozen T25 8
 have k9 := (blk_cell T25 9).trans rfl
 have z9 := blk_frozen T25 9
 go_wp2
 have b0 : (w5.setCell ⟨p2, 0, none⟩ (.int .i64 0)).heap[p2]? = some (.cells #[(.int .i64 0), (.int .i64 0), (.bool false), (.string ⟨#[]⟩), (.int .i64 0), (.int .i64 0), (.int .i64 0), (.string ⟨#[]⟩), (.int .u64 0), (.slice none 0 0)] TF (0, 0)) := blk_set T25 0 _
 have n0 := HN.setq hpw hp0 hpp 0 (.int .i64 0)
 have b1 : ((w5.setCell ⟨p2, 0, none⟩ (.int .i64 0)).setCell ⟨p2, 1, none⟩ (.int .i64 0)).heap[p2]? = some (.cells #[(.int .i64 0), (.int .i64 0), (.bool false), (.string ⟨#[]⟩), (.int .i64 0), (.int .i64 0), (.int .i64 0), (.string ⟨#[]⟩), (.int .u64 0), (.slice none 0 0)] TF (0, 0)) := blk_set b0 1 _
 have n1 := n0.setq hpw hp0 hpp 1 (.int .i64 0)
 have b2 : (((w5.setCell ⟨p2, 0, none⟩ (.int .i64 0)).setCell ⟨p2, 1, none⟩ (.int .i64 0)).setCell ⟨p2, 2, none⟩ (.bool false)).heap[p2]? = some (.cells #[(.int .i64 0), (.int .i64 0), (.bool false), (.string ⟨#[]⟩), (.int .i64 0), (.int .i64 0), (.int .i64 0), (.string ⟨#[]⟩), (.int .u64 0), (.slice none 0 0)] TF (0, 0)) := blk_set b1 2 _
 have n2 := n1.setq hpw hp0 hpp 2 (.bool false)
 have b3 : ((((w5.setCell ⟨p2, 0, none⟩ (.int .i64 0)).setCell ⟨p2, 1, none⟩ (.int .i64 0)).setCell ⟨p2, 2, none⟩ (.bool false)).setCell ⟨p2, 3, none⟩ (.string ⟨#[]⟩)).heap[p2]? = some (.cells #[(.int .i64 0), (.int .i64 0), (.bool false), (.string ⟨#[]⟩), (.int .i64 0), (.int .i64 0), (.int .i64 0), (.string ⟨#[]⟩), (.int .u64 0), (.slice none 0 0)] TF (0, 0)) := blk_set b2 3 _
 have n3 := n2.setq hpw hp0 hpp 3 (.string ⟨#[]⟩)
 have b4 : (((((w5.setCell ⟨p2, 0, none⟩ (.int .i64 0)).setCell ⟨p2, 1, none⟩ (.int .i64 0)).setCell ⟨p2, 2, none⟩ (.bool false)).setCell ⟨p2, 3, none⟩ (.string ⟨#[]⟩)).setCell ⟨p2, 4, none⟩ (.int .i64 0)).heap[p2]? = some (.cells #[(.int .i64 0), (.int .i64 0), (.bool false), (.string ⟨#[]⟩), (.int .i64 0), (.int .i64 0), (.int .i64 0), (.string ⟨#[]⟩), (.int .u64 0), (.slice none 0 0)] TF (0, 0)) := blk_set b3 4 _
 have n4 := n3.setq hpw hp0 hpp 4 (.int .i64 0)
 have b5 : ((((((w5.setCell ⟨p2, 0, none⟩ (.int .i64 0)).setCell ⟨p2, 1, none⟩ (.int .i64 0)).setCell ⟨p2, 2, none⟩ (.bool false)).setCell ⟨p2, 3, none⟩ (.string ⟨#[]⟩)).setCell ⟨p2, 4, none⟩ (.int .i64 0)).setCell ⟨p2, 5, none⟩ (.int .i64 0)).heap[p2]? = some (.cells #[(.int .i64 0), (.int .i64 0), (.bool false), (.string ⟨#[]⟩), (.int .i64 0), (.int .i64 0), (.int .i64 0), (.string ⟨#[]⟩), (.int .u64 0), (.slice none 0 0)] TF (0, 0)) := blk_set b4 5 _
 have n5 := n4.setq hpw hp0 hpp 5 (.int .i64 0)
 have b6 : (((((((w5.setCell ⟨p2, 0, none⟩ (.int .i64 0)).setCell ⟨p2, 1, none⟩ (.int .i64 0)).setCell ⟨p2, 2, none⟩ (.bool false)).setCell ⟨p2, 3, none⟩ (.string ⟨#[]⟩)).setCell ⟨p2, 4, none⟩ (.int .i64 0)).setCell ⟨p2, 5, none⟩ (.int .i64 0)).setCell ⟨p2, 6, none⟩ (.int .i64 0)).heap[p2]? = some (.cells #[(.int .i64 0), (.int .i64 0), (.bool false), (.string ⟨#[]⟩), (.int .i64 0), (.int .i64 0), (.int .i64 0), (.string ⟨#[]⟩), (.int .u64 0), (.slice none 0 0)] TF (0, 0)) := blk_set b5 6 _
 have n6 := n5.setq hpw hp0 hpp 6 (.int .i64 0)
 have b7 : ((((((((w5.setCell ⟨p2, 0, none⟩ (.int .i64 0)).setCell ⟨p2, 1, none⟩ (.int .i64 0)).setCell ⟨p2, 2, none⟩ (.bool false)).setCell ⟨p2, 3, none⟩ (.string ⟨#[]⟩)).setCell ⟨p2, 4, none⟩ (.int .i64 0)).setCell ⟨p2, 5, none⟩ (.int .i64 0)).setCell ⟨p2, 6, none⟩ (.int .i64 0)).setCell ⟨p2, 7, none⟩ (.string ⟨#[]⟩)).heap[p2]? = some (.cells #[(.int .i64 0), (.int .i64 0), (.bool false), (.string ⟨#[]⟩), (.int .i64 0), (.int .i64 0), (.int .i64 0), (.string ⟨#[]⟩), (.int .u64 0), (.slice none 0 0)] TF (0, 0)) := blk_set b6 7 _
 have n7 := n6.setq hpw hp0 hpp 7 (.string ⟨#[]⟩)
 have b8 : (((((((((w5.setCell ⟨p2, 0, none⟩ (.int .i64 0)).setCell ⟨p2, 1, none⟩ (.int .i64 0)).setCell ⟨p2, 2, none⟩ (.bool false)).setCell ⟨p2, 3, none⟩ (.string ⟨#[]⟩)).setCell ⟨p2, 4, none⟩ (.int .i64 0)).setCell ⟨p2, 5, none⟩ (.int .i64 0)).setCell ⟨p2, 6, none⟩ (.int .i64 0)).setCell ⟨p2, 7, none⟩ (.string ⟨#[]⟩)).setCell ⟨p2, 8, none⟩ (.int .u64 0)).heap[p2]? = some (.cells #[(.int .i64 0), (.int .i64 0), (.bool false), (.string ⟨#[]⟩), (.int .i64 0), (.int .i64 0), (.int .i64 0), (.string ⟨#[]⟩), (.int .u64 0), (.slice none 0 0)] TF (0, 0)) := blk_set b7 8 _
 have n8 := n7.setq hpw hp0 hpp 8 (.int .u64 0)
 have b9 : ((((((((((w5.setCell ⟨p2, 0, none⟩ (.int .i64 0)).setCell ⟨p2, 1, none⟩ (.int .i64 0)).setCell ⟨p2, 2, none⟩ (.bool false)).setCell ⟨p2, 3, none⟩ (.string ⟨#[]⟩)).setCell ⟨p2, 4, none⟩ (.int .i64 0)).setCell ⟨p2, 5, none⟩ (.int .i64 0)).setCell ⟨p2, 6, none⟩ (.int .i64 0)).setCell ⟨p2, 7, none⟩ (.string ⟨#[]⟩)).setCell ⟨p2, 8, none⟩ (.int .u64 0)).setCell ⟨p2, 9, none⟩ (.slice none 0 0)).heap[p2]? = some (.cells #[(.int .i64 0), (.int .i64 0), (.bool false), (.string ⟨#[]⟩), (.int .i64 0), (.int .i64 0), (.int .i64 0), (.string ⟨#[]⟩), (.int .u64 0), (.slice none 0 0)] TF (0, 0)) := blk_set b8 9 _
 have n9 := n8.setq hpw hp0 hpp 9 (.slice none 0 0)
 generalize hwf : ((((((((((w5.setCell ⟨p2, 0, none⟩ (.int .i64 0)).setCell ⟨p2, 1, none⟩ (.int .i64 0)).setCell ⟨p2, 2, none⟩ (.bool false)).setCell ⟨p2, 3, none⟩ (.string ⟨#[]⟩)).setCell ⟨p2, 4, none⟩ (.int .i64 0)).setCell ⟨p2, 5, none⟩ (.int .i64 0)).setCell ⟨p2, 6, none⟩ (.int .i64 0)).setCell ⟨p2, 7, none⟩ (.string ⟨#[]⟩)).setCell ⟨p2, 8, none⟩ (.int .u64 0)).setCell ⟨p2, 9, none⟩ (.slice none 0 0)) = wf at b9 n9 ⊢
 clear b0 n0 b1 n1 b2 n2 b3 n3 b4 n4 b5 n5 b6 n6 b7 n7 b8 n8
 refine bodyPost_ret (results_ct rfl _ _ p2 TF #[(.int .i64 0), (.int .i64 0), (.bool false), (.string ⟨#[]⟩), (.int .i64 0), (.int .i64 0), (.int .i64 0), (.string ⟨#[]⟩), (.int .u64 0), (.slice none 0 0)] (0, 0) _ rfl b9 Try.underlying60 rfl (by kernel_rfl)) rfl ?_
 exact ⟨rfl, n9⟩
end Go.Proofs.Ytmigglldahkngaa.XTell
end

section
/- Whole numbers below 2^53 as floats: sums, differences, products and the way back are exact. No program is in sight. -/
namespace Go.Proofs.Ytmigglldahkngaa.XFloat
open Go Ieee
/-- A whole number's float. -/
def fl (n : Nat) : Nat := floatOfInt .f64 (n : Int)
theorem fl_def (n : Nat) : fl n = Ieee.double.nearest false n 0 := by
 show FloatKind.nearest .f64 (n : Int) = _
 unfold FloatKind.nearest FloatKind.encode FloatKind.format
 have h : decide ((n : Int) < 0) = false := decide_eq_false (by omega)
 rw [h]
 rfl
theorem cut_even (neg : Bool) (m d : Nat) (hd : d ≤ (m <<< d).log2 + 2) : Toward.even.cut neg (m <<< d) d = m := by
 unfold Toward.cut
 rw [Nat.min_eq_left hd]
 have hp : 0 < 2 ^ d := Nat.two_pow_pos d
 have e1 : (1 : Nat) <<< d = 2 ^ d := by rw [Nat.shiftLeft_eq, Nat.one_mul]
 rw [e1, Nat.shiftLeft_eq]
 dsimp only
 rw [Nat.mul_div_cancel _ hp, Nat.mul_mod_left]
 have e2 : (2 ^ d == 2 * 0) = false := by simp
 simp only [Nat.mul_zero, Nat.not_lt_zero, decide_false, Bool.false_or]
 have e3 : (2 ^ d == 0) = false := by simp
 rw [e3]
 rfl
theorem cut_zero (neg : Bool) (m d : Nat) (hd : m = 0 ∨ d ≤ (m <<< d).log2 + 2) : Toward.zero.cut neg (m <<< d) d = m := by
 unfold Toward.cut
 rcases hd with h | h
 ·subst h
  simp
 ·rw [Nat.min_eq_left h]
  have hp : 0 < 2 ^ d := Nat.two_pow_pos d
  have e1 : (1 : Nat) <<< d = 2 ^ d := by rw [Nat.shiftLeft_eq, Nat.one_mul]
  rw [e1, Nat.shiftLeft_eq]
  dsimp only
  rw [Nat.mul_div_cancel _ hp]
  rfl
theorem log2_shift (n k : Nat) (hn : n ≠ 0) : (n <<< k).log2 = n.log2 + k := by
 have h := Nat.log2_self_le hn
 have h2 := Nat.lt_log2_self (n := n)
 have hne : n <<< k ≠ 0 := by rw [Nat.shiftLeft_eq]; exact Nat.mul_ne_zero hn (Nat.ne_of_gt (Nat.two_pow_pos k))
 have hp : 0 < 2 ^ k := Nat.two_pow_pos k
 refine Nat.le_antisymm ?_ ?_
 ·refine Nat.le_of_lt_succ ((Nat.log2_lt hne).2 ?_)
  rw [Nat.shiftLeft_eq, show (n.log2 + k).succ = (n.log2 + 1) + k by omega, Nat.pow_add]
  exact Nat.mul_lt_mul_of_pos_right h2 hp
 ·refine (Nat.le_log2 hne).2 ?_
  rw [Nat.shiftLeft_eq, Nat.pow_add]
  exact Nat.mul_le_mul_right _ h
theorem log2_lt53 {n : Nat} (hn : n ≠ 0) (h : n < 2 ^ 53) : n.log2 ≤ 52 := Nat.le_of_lt_succ ((Nat.log2_lt hn).2 h)
/-- The rung of a whole number. -/
def rung (n : Nat) : Nat := if n = 0 then 0 else (n.log2 + 1022) * 2 ^ 52 + n <<< (52 - n.log2)
theorem kept_lt {n : Nat} (hn : n ≠ 0) (h : n < 2 ^ 53) : 2 ^ 52 ≤ n <<< (52 - n.log2) ∧ n <<< (52 - n.log2) < 2 ^ 53 := by
 have hl := log2_lt53 hn h
 have h1 := Nat.log2_self_le hn
 have h2 := Nat.lt_log2_self (n := n)
 rw [Nat.shiftLeft_eq]
 have hp : 0 < 2 ^ (52 - n.log2) := Nat.two_pow_pos _
 constructor
 ·calc 2 ^ 52 = 2 ^ n.log2 * 2 ^ (52 - n.log2) := by rw [← Nat.pow_add]; congr 1; omega
   _ ≤ _ := Nat.mul_le_mul_right _ h1
 ·calc _ < 2 ^ (n.log2 + 1) * 2 ^ (52 - n.log2) := Nat.mul_lt_mul_of_pos_right h2 hp
   _ = 2 ^ 53 := by rw [← Nat.pow_add]; congr 1; omega
theorem min_rung (L m : Nat) (hL : L ≤ 52) (hm : m < 2 ^ 53) : min ((L + 1022) * 2 ^ 52 + m) (2047 * 2 ^ 52) = (L + 1022) * 2 ^ 52 + m := by
 rw [show (2 : Nat) ^ 53 = 2 ^ 52 * 2 by rw [← Nat.pow_succ]] at hm
 generalize (2 : Nat) ^ 52 = B at hm ⊢
 refine Nat.min_eq_left ?_
 have : (L + 1022) * B ≤ 1074 * B := Nat.mul_le_mul_right _ (by omega)
 omega
theorem nearest_at (n k : Nat) (h : n < 2 ^ 53) : Ieee.double.nearest false (n <<< k) (-(k : Int)) = rung n := by
 unfold Format.nearest rung
 by_cases hn : n = 0
 ·subst hn
  simp [Format.word]
 ·have hne : n <<< k ≠ 0 := by rw [Nat.shiftLeft_eq]; exact Nat.mul_ne_zero hn (Nat.ne_of_gt (Nat.two_pow_pos k))
  have hl := log2_lt53 hn h
  have hk := kept_lt hn h
  rw [if_neg hne, if_neg hn]
  have e0 : Ieee.double.leastPlace = -1074 := by decide
  have e1 : (Ieee.double.fractionBits : Int) = 52 := rfl
  have e2 : Ieee.double.binade = 2 ^ 52 := rfl
  have e3 : Ieee.double.infRung = 2047 * 2 ^ 52 := by decide
  have e4 : max (-(k : Int) + ((n <<< k).log2 : Int) - (Ieee.double.fractionBits : Int)) Ieee.double.leastPlace = (n.log2 : Int) - 52 := by
   rw [log2_shift n k hn, e0, e1]; omega
  simp only [e4]
  rw [e0, e2, e3]
  have e5 : ((n.log2 : Int) - 52 - -1074).toNat = n.log2 + 1022 := by omega
  have e6 : Toward.even.cut false ((n <<< k) <<< (-(k : Int) - ((n.log2 : Int) - 52)).toNat) ((n.log2 : Int) - 52 - -(k : Int)).toNat = n <<< (52 - n.log2) := by
   by_cases c : k + n.log2 ≤ 52
   ·rw [show (-(k : Int) - ((n.log2 : Int) - 52)).toNat = 52 - n.log2 - k by omega, show ((n.log2 : Int) - 52 - -(k : Int)).toNat = 0 by omega, ← Nat.shiftLeft_add, show k + (52 - n.log2 - k) = 52 - n.log2 by omega]
    exact cut_even false (n <<< (52 - n.log2)) 0 (Nat.zero_le _)
   ·rw [show (-(k : Int) - ((n.log2 : Int) - 52)).toNat = 0 by omega, show ((n.log2 : Int) - 52 - -(k : Int)).toNat = n.log2 + k - 52 by omega, Nat.shiftLeft_zero]
    have e7 : n <<< k = (n <<< (52 - n.log2)) <<< (n.log2 + k - 52) := by rw [← Nat.shiftLeft_add]; congr 1; omega
    rw [e7]
    refine cut_even false _ _ ?_
    rw [← e7, log2_shift n k hn]
    omega
  rw [e5, e6]
  unfold Format.word
  rw [if_neg (by simp)]
  exact min_rung _ _ hl hk.2
theorem fl_rung (n : Nat) (h : n < 2 ^ 53) : fl n = rung n := by
 rw [fl_def]
 have := nearest_at n 0 h
 rw [Nat.shiftLeft_zero] at this
 exact this
theorem write_at (n k : Nat) (h : n < 2 ^ 53) : Ieee.double.write (.number false (n <<< k) (-(k : Int))) = fl n := by
 rw [fl_rung n h]
 exact nearest_at n k h
theorem read_fl (n : Nat) (h : n < 2 ^ 53) : ∃ k : Nat, Ieee.double.read (fl n) = .number false (n <<< k) (-(k : Int)) ∧ (n ≠ 0 → k ≤ 52) := by
 rw [fl_rung n h]
 unfold rung
 by_cases hn : n = 0
 ·subst hn
  refine ⟨1074, ?_, fun e => absurd rfl e⟩
  rw [if_pos rfl, Nat.zero_shiftLeft]
  decide
 ·rw [if_neg hn]
  have hl := log2_lt53 hn h
  have hk := kept_lt hn h
  refine ⟨52 - n.log2, ?_, fun _ => by omega⟩
  generalize hm : n <<< (52 - n.log2) = m at hk ⊢
  have e0 : Ieee.double.leastPlace = -1074 := by decide
  have e2 : Ieee.double.binade = 2 ^ 52 := rfl
  have e3 : Ieee.double.infRung = 2047 * 2 ^ 52 := by decide
  have e4 : Ieee.double.signWeight = 2 ^ 63 := rfl
  have hb : (n.log2 + 1022) * 2 ^ 52 ≤ 1074 * 2 ^ 52 := Nat.mul_le_mul_right _ (by omega)
  have hx : (n.log2 + 1022) * 2 ^ 52 + m < 2 ^ 63 := by omega
  unfold Format.read
  rw [e4, e2, e3, e0]
  simp only
  rw [Nat.div_eq_of_lt hx, Nat.mod_eq_of_lt hx, if_neg (by omega), if_pos (by omega)]
  have e5 : ((n.log2 + 1022) * 2 ^ 52 + m) % 2 ^ 52 = m - 2 ^ 52 := by omega
  have e6 : ((n.log2 + 1022) * 2 ^ 52 + m) / 2 ^ 52 = n.log2 + 1023 := by omega
  rw [e5, e6]
  have e7 : 2 ^ 52 + (m - 2 ^ 52) = m := by omega
  rw [e7]
  have e8 : (-1074 : Int) + ((n.log2 + 1023 - 1 : Nat) : Int) = -((52 - n.log2 : Nat) : Int) := by omega
  rw [e8]
  rfl
theorem sh_le (n k K : Nat) (h : k ≤ K) : (n <<< k) <<< (K - k) = n <<< K := by rw [← Nat.shiftLeft_add]; congr 1; omega
theorem base_min (i j : Nat) : min (-(i : Int)) (-(j : Int)) = -((max i j : Nat) : Int) := by omega
theorem fl_add (n m : Nat) (h : n + m < 2 ^ 53) : floatBits .add .f64 (fl n) (fl m) = some (fl (n + m)) := by
 obtain ⟨i, hi, _⟩ := read_fl n (by omega)
 obtain ⟨j, hj, _⟩ := read_fl m (by omega)
 show Ieee.double.add (fl n) (fl m) = _
 unfold Format.add
 rw [hi, hj]
 simp only [Datum.sum, base_min, signed, Bool.false_eq_true, if_false, Option.map_some, Bool.and_self]
 rw [show (-(i : Int) - -((max i j : Nat) : Int)).toNat = max i j - i by omega, show (-(j : Int) - -((max i j : Nat) : Int)).toNat = max i j - j by omega, sh_le n i _ (Nat.le_max_left ..), sh_le m j _ (Nat.le_max_right ..)]
 have e : n <<< max i j + m <<< max i j = (n + m) <<< max i j := by rw [Nat.shiftLeft_eq, Nat.shiftLeft_eq, Nat.shiftLeft_eq, Nat.add_mul]
 have e2 : ((n <<< max i j : Nat) : Int) + ((m <<< max i j : Nat) : Int) = (((n + m) <<< max i j : Nat) : Int) := by rw [← e]; omega
 rw [e2]
 have e3 : (if (((n + m) <<< max i j : Nat) : Int) = 0 then false else decide ((((n + m) <<< max i j : Nat) : Int) < 0)) = false := by
  split
  ·rfl
  ·exact decide_eq_false (Int.not_lt.2 (Int.natCast_nonneg _))
 rw [e3, Int.natAbs_natCast, write_at _ _ h]
theorem fl_sub (n m : Nat) (hn : n < 2 ^ 53) (h : m ≤ n) : floatBits .sub .f64 (fl n) (fl m) = some (fl (n - m)) := by
 obtain ⟨i, hi, _⟩ := read_fl n (by omega)
 obtain ⟨j, hj, _⟩ := read_fl m (by omega)
 show Ieee.double.sub (fl n) (fl m) = _
 unfold Format.sub
 rw [hi, hj]
 simp only [Datum.opposite, Datum.sum, base_min, signed, Bool.false_eq_true, if_false, Option.map_some, Bool.not_false, if_true, Bool.false_and]
 rw [show (-(i : Int) - -((max i j : Nat) : Int)).toNat = max i j - i by omega, show (-(j : Int) - -((max i j : Nat) : Int)).toNat = max i j - j by omega, sh_le n i _ (Nat.le_max_left ..), sh_le m j _ (Nat.le_max_right ..)]
 have e : n <<< max i j = (n - m) <<< max i j + m <<< max i j := by rw [Nat.shiftLeft_eq, Nat.shiftLeft_eq, Nat.shiftLeft_eq, ← Nat.add_mul, Nat.sub_add_cancel h]
 have e2 : ((n <<< max i j : Nat) : Int) + -((m <<< max i j : Nat) : Int) = (((n - m) <<< max i j : Nat) : Int) := by omega
 rw [e2]
 have e3 : (if (((n - m) <<< max i j : Nat) : Int) = 0 then false else decide ((((n - m) <<< max i j : Nat) : Int) < 0)) = false := by
  split
  ·rfl
  ·exact decide_eq_false (Int.not_lt.2 (Int.natCast_nonneg _))
 rw [e3, Int.natAbs_natCast, write_at _ _ (by omega)]
theorem fl_mul (n m : Nat) (hn : n < 2 ^ 53) (hm : m < 2 ^ 53) (h : n * m < 2 ^ 53) : floatBits .mul .f64 (fl n) (fl m) = some (fl (n * m)) := by
 obtain ⟨i, hi, _⟩ := read_fl n hn
 obtain ⟨j, hj, _⟩ := read_fl m hm
 show Ieee.double.mul (fl n) (fl m) = _
 unfold Format.mul
 rw [hi, hj]
 simp only [Datum.product, Bool.xor_self, Option.map_some]
 have e : n <<< i * m <<< j = (n * m) <<< (i + j) := by rw [Nat.shiftLeft_eq, Nat.shiftLeft_eq, Nat.shiftLeft_eq, Nat.pow_add, Nat.mul_mul_mul_comm]
 have e2 : -(i : Int) + -(j : Int) = -((i + j : Nat) : Int) := by omega
 rw [e, e2, write_at _ _ h]
theorem fl_int (n : Nat) (h : n < 2 ^ 53) : floatToIntVal .f64 (fl n) .i64 = some (n : Int) := by
 obtain ⟨i, hi, h2⟩ := read_fl n h
 unfold floatToIntVal
 have e : (FloatKind.decode .f64 (fl n)).toInt .zero = some (n : Int) := by
  show (Ieee.double.read (fl n)).toInt .zero = _
  rw [hi]
  unfold Datum.toInt Datum.integral
  simp only
  rw [show (-(i : Int)).toNat = 0 by omega, show (- -(i : Int)).toNat = i by omega, Nat.shiftLeft_zero]
  rw [cut_zero false n i (by
   by_cases hn : n = 0
   ·exact Or.inl hn
   ·right; rw [log2_shift n i hn]; omega)]
  simp [signed]
 rw [e]
 simp only
 rw [if_pos]
 constructor
 ·show (IntKind.i64.min : Int) ≤ n
  have : IntKind.i64.min = -9223372036854775808 := by decide
  omega
 ·have : IntKind.i64.max = 9223372036854775807 := by decide
  omega
theorem fl_wf (n : Nat) : (Lit.float .f64 (fl n)).wf = true := floatOfInt_wf .f64 n
theorem fl_one : (4607182418800017408 : Nat) = fl 1 := by decide
theorem fl_zero : (0 : Nat) = fl 0 := by decide
end Go.Proofs.Ytmigglldahkngaa.XFloat
end

section
/- pace's numbers on the complex plane, walked: a bucket's point, a point's bucket, a bucket as it is later, a token taken. -/
namespace Go.Proofs.Ytmigglldahkngaa.XPace
open Go.RowKit Go.Proofs.YtmigglldahkngaaW.PrintWords Go.Proofs.YtmigglldahkngaaW.PrintLast Go.Proofs.YtmigglldahkngaaW.PrintMore Go.Proofs.Ytmigglldahkngaa.PA Go.Proofs.Ytmigglldahkngaa.XMem Go.Proofs.Ytmigglldahkngaa.XFloat
set_option linter.unusedVariables false
set_option linter.unusedSimpArgs false
set_option maxRecDepth 100000
theorem point_calls (t a : Int) (x y : Nat) (hx : floatOfInt .f64 t = x) (hy : floatOfInt .f64 a = y) (w : World) :
  Calls Try.prog 74 #[.agg #[.int .i64 t, .int .i64 a]] w fun e w' => e = .returned (.complex .f64 x y) ∧ Below w.heap.size w w' := by
 subst hx
 subst hy
 go_enter Try.func74, Try.ntmps74
 have HB : Below w.heap.size w w := Below.refl _ _
 have hM : Mem w [] := Mem.nil w
 go_upto_region 1 with (fail)
 generalize hg : World.alloc _ _ = w1
 obtain ⟨hB', hM', hb⟩ := Mem.new hg HB hM
 clear HB hM hg hb
 generalize w.heap.size = p at hM' ⊢
 have q0 := hM'.cell 0 0 rfl rfl
 have q1 := hM'.cell 0 1 rfl rfl
 go_wp2
 go_ret
 exact ⟨rfl, hB'⟩
theorem someU121 : (Try.prog.underlying 121).isSome = true := by rw [Try.underlying121]; rfl
theorem bucket_calls (t a : Nat) (ht : t < 2 ^ 53) (ha : a < 2 ^ 53) (w : World) :
  Calls Try.prog 73 #[.complex .f64 (fl t) (fl a)] w fun e w' => e = .returned (.agg #[.int .i64 t, .int .i64 a]) ∧ Below w.heap.size w w' := by
 have h1 := Aside0.mk (fl_int t ht)
 have h2 := Aside0.mk (fl_int a ha)
 generalize fl t = x at h1 ⊢
 generalize fl a = y at h2 ⊢
 clear ht ha
 generalize (t : Int) = t at h1 ⊢
 generalize (a : Int) = a at h2 ⊢
 go_enter Try.func73, Try.ntmps73
 have HB : Below w.heap.size w w := Below.refl _ _
 have hM : Mem w [] := Mem.nil w
 go_upto_region 1 with (fail)
 generalize hg : World.alloc _ _ = w1
 obtain ⟨hB', hM', hb⟩ := Mem.new hg HB hM
 have T := al_new hg
 have hz : w.heap.size ≤ w.heap.size := Nat.le_refl _
 clear HB hM hg hb hM'
 generalize hp : w.heap.size = p at T ⊢
 have k0 := (blk_cell T 0).trans rfl
 have k1 := (blk_cell T 1).trans rfl
 have z0 := blk_frozen T 0
 have z1 := blk_frozen T 1
 go_wp2_with (first | (rw [run_convert_float_int _ 121 3 .f64 .i64 x t someU121 Try.underlying3 h1.out]; go_simp) | (rw [run_convert_float_int _ 121 3 .f64 .i64 y a someU121 Try.underlying3 h2.out]; go_simp))
 refine bodyPost_ret (results_cell_row rfl _ _ p 28 #[.int .i64 t, .int .i64 a] (0, 0) _ rfl (blk_set (blk_set T 0 _) 1 _) Try.underlying28 rfl (by kernel_rfl)) rfl ?_
 refine ⟨rfl, ?_⟩
 exact below_set (below_set hB' (Nat.le_of_eq hp)) (Nat.le_of_eq hp)
theorem Mem.new3 {w0 w w1 : World} {L : List (Nat × Obj)} {o o' o'' : Obj} (h : ((w.alloc o).alloc o').alloc o'' = w1) (hB : Below w0.heap.size w0 w) (hM : Mem w L) : Below w0.heap.size w0 w1 ∧ Mem w1 ((w.heap.size + 2, o'') :: (w.heap.size + 1, o') :: (w.heap.size, o) :: L) ∧ Below w.heap.size w w1 := by
 obtain ⟨h1, h2, h3⟩ := Mem.new2 (rfl : (w.alloc o).alloc o' = _) hB hM
 obtain ⟨k1, k2, k3⟩ := Mem.new h h1 h2
 rw [show ((w.alloc o).alloc o').heap.size = w.heap.size + 2 by simp] at k2
 exact ⟨k1, k2, below_step h3 k3⟩
theorem mul_pl (k r : Nat) (hk : k < 2 ^ 53) (hr : r < 2 ^ 53) (h : k * r < 2 ^ 53) : cMulBits (fl k) 0 (fl r) 4607182418800017408 = some (fl (k * r), fl k) := by
 rw [fl_zero, fl_one]
 unfold cMulBits
 rw [fl_mul k r hk hr h, fl_mul 0 1 (by omega) (by omega) (by omega), Option.bind_some, Option.bind_some, show 0 * 1 = 0 from rfl, fl_sub (k * r) 0 h (by omega), Option.bind_some, fl_mul k 1 hk (by omega) (by omega), Option.bind_some, fl_mul 0 r (by omega) hr (by omega), Option.bind_some, Nat.zero_mul, Nat.mul_one, fl_add k 0 (by omega)]
 rfl
theorem add_pl (a b c d : Nat) (h1 : a + c < 2 ^ 53) (h2 : b + d < 2 ^ 53) : cSumBits .add .f64 (fl a) (fl b) (fl c) (fl d) = some (fl (a + c), fl (b + d)) := by
 unfold cSumBits
 rw [fl_add a c h1, fl_add b d h2]
 rfl
theorem sub_pl (a b : Nat) (h1 : a < 2 ^ 53) (h2 : b < 2 ^ 53) (h3 : 1 ≤ a) : cSumBits .sub .f64 (fl a) (fl b) 4607182418800017408 0 = some (fl (a - 1), fl b) := by
 rw [fl_zero, fl_one]
 unfold cSumBits
 rw [fl_sub a 1 h1 h3, fl_sub b 0 h2 (by omega)]
 rfl
attribute [local go_sem] max2_int min2_int max_two min_two
set_option maxHeartbeats 4000000 in
theorem later_late (c0 c1 c3 : Int) (r t a now k : Nat) (hr : r ≤ 16) (ht : t ≤ 64) (ha : a ≤ 1099511627776) (hn : now ≤ 1099511627776) (h0 : a < now) (hk : k = now - a) (m : Int) (hm : m = mn ((t + k * r : Nat) : Int) c1) (w : World) :
  Calls Try.prog 72 #[.agg #[.int .i64 c0, .int .i64 c1, .int .i64 r, .int .i64 c3], .agg #[.int .i64 t, .int .i64 a], .int .i64 now] w fun e w' => e = .returned (.agg #[.int .i64 m, .int .i64 (a + k : Nat)]) ∧ Below w.heap.size w w' := by
 have hkr : k * r ≤ 1099511627776 * 16 := Nat.mul_le_mul (by omega) hr
 have HM := Aside0.mk (mul_pl k r (by omega) (by omega) (by omega))
 have HA := Aside0.mk (add_pl t a (k * r) k (by omega) (by omega))
 have HP := Aside0.mk (fun w => point_calls (t : Int) (a : Int) (fl t) (fl a) rfl rfl w)
 have HB := Aside0.mk (fun w => bucket_calls (t + k * r) (a + k) (by omega) (by omega) w)
 have hs : wrap64 ((now : Int) - (a : Int)) = (k : Int) := by unfold wrap64; omega
 have h0' : (0 : Int) < (k : Int) := by omega
 have hf : floatOfInt .f64 (k : Int) = fl k := rfl
 have hf2 : floatOfInt .f64 (r : Int) = fl r := rfl
 generalize fl k = fk at HM HA hf
 generalize fl r = fr at HM hf2
 generalize fl t = ft at HA HP
 generalize fl a = fa at HA HP
 generalize fl (k * r) = fkr at HM HA
 generalize fl (t + k * r) = fz at HA HB
 generalize fl (a + k) = fy at HA HB
 generalize ((t + k * r : Nat) : Int) = z at HB hm ⊢
 generalize ((a + k : Nat) : Int) = y at HB ⊢
 generalize (k : Int) = ki at hs h0' hf
 clear hr ht ha hn hk hkr h0
 go_enter Try.func72, Try.ntmps72
 have hB : Below w.heap.size w w := Below.refl _ _
 have hM : Mem w [] := Mem.nil w
 go_upto_region 1 with (fail)
 generalize hg : World.alloc _ _ = w1
 obtain ⟨hB1, hM1, hb⟩ := Mem.new3 hg hB hM
 clear hB hM hg hb
 generalize h3 : w.heap.size = p3 at hM1 ⊢
 have q1 := hM1.cell 2 1 rfl rfl
 have q2 := hM1.cell 2 2 rfl rfl
 have u0 := hM1.cell 1 0 rfl rfl
 have u1 := hM1.cell 1 1 rfl rfl
 go_wp2_with fail
 refine (HP.out w1).mono ?_
 rintro e w2 ⟨rfl, hb⟩
 replace hB1 := below_step hB1 hb
 replace hM1 := hM1.below hb
 clear hb u0 u1 q1 q2 HP
 go_wp2_with (first | (rw [run_complex_mul _ 104 _ _ _ _ _ _ HM.out]; go_simp) | (rw [run_complex_sum _ .add (.inl rfl) 104 .f64 _ _ _ _ _ _ HA.out]; go_simp) | fail)
 refine (HB.out w2).mono ?_
 rintro e w3 ⟨rfl, hb⟩
 replace hB1 := below_step hB1 hb
 replace hM1 := hM1.below hb
 clear hb HB HM HA
 have T3 := hM1.get 2 rfl
 have T4 := hM1.get 1 rfl
 have T6 := hM1.get 0 rfl
 have q1 := hM1.cell 2 1 rfl rfl
 have u0 := (blk_cell T4 0).trans rfl
 have u1 := (blk_cell T4 1).trans rfl
 have z0 := blk_frozen T4 0
 have z1 := blk_frozen T4 1
 clear hM1
 go_upto_region 4 with (fail)
 have T4' := blk_set (blk_set T4 0 (.int .i64 z)) 1 (.int .i64 y)
 have T3' := blk_far (blk_far T3 (p := ⟨p3 + 1, 0, none⟩) (by show p3 ≠ p3 + 1; omega) (.int .i64 z)) (p := ⟨p3 + 1, 1, none⟩) (by show p3 ≠ p3 + 1; omega) (.int .i64 y)
 have T6' := blk_far (blk_far T6 (p := ⟨p3 + 1, 0, none⟩) (by show p3 + 2 ≠ p3 + 1; omega) (.int .i64 z)) (p := ⟨p3 + 1, 1, none⟩) (by show p3 + 2 ≠ p3 + 1; omega) (.int .i64 y)
 replace hB1 := below_set (j := 1) (v := .int .i64 y) (below_set (j := 0) (v := .int .i64 z) hB1 (g := p3 + 1) (by omega)) (g := p3 + 1) (by omega)
 generalize (w3.setCell ⟨p3 + 1, 0, none⟩ (.int .i64 z)).setCell ⟨p3 + 1, 1, none⟩ (.int .i64 y) = w4 at T4' T3' T6' hB1 ⊢
 clear T3 T4 T6 q1 u0 u1 z0 z1
 have q1 := (blk_cell T3' 1).trans rfl
 have u0 := (blk_cell T4' 0).trans rfl
 have z0 := blk_frozen T4' 0
 by_cases hzc : c1 < z
 ·have hmz : m = c1 := by rw [hm]; unfold mn; rw [if_pos hzc]
  subst hmz
  clear hm
  go_upto_region 5 with (fail)
  have T4 := blk_set T4' 0 (.int .i64 m)
  have T6 := blk_far T6' (p := ⟨p3 + 1, 0, none⟩) (by show p3 + 2 ≠ p3 + 1; omega) (.int .i64 m)
  replace hB1 := below_set (j := 0) (v := .int .i64 m) hB1 (g := p3 + 1) (by omega)
  generalize w4.setCell ⟨p3 + 1, 0, none⟩ (.int .i64 m) = w5 at T4 T6 hB1 ⊢
  clear T3' T4' T6' q1 u0 z0
  have u0 := (blk_cell T4 0).trans rfl
  have u1 := (blk_cell T4 1).trans rfl
  have k0 := (blk_cell T6 0).trans rfl
  have k1 := (blk_cell T6 1).trans rfl
  have z0 := blk_frozen T6 0
  have z1 := blk_frozen T6 1
  go_wp2
  refine bodyPost_ret (results_cell_row rfl _ _ (p3 + 2) 28 #[.int .i64 m, .int .i64 y] (0, 0) _ rfl (blk_set (blk_set T6 0 _) 1 _) Try.underlying28 rfl (by kernel_rfl)) rfl ?_
  exact ⟨rfl, below_set (below_set hB1 (by omega)) (by omega)⟩
 ·have hmz : m = z := by rw [hm]; unfold mn; rw [if_neg hzc]
  subst hmz
  clear hm
  have hzc' : m ≤ c1 := by omega
  clear hzc
  go_upto_region 5 with (fail)
  have T4 := blk_set T4' 0 (.int .i64 m)
  have T6 := blk_far T6' (p := ⟨p3 + 1, 0, none⟩) (by show p3 + 2 ≠ p3 + 1; omega) (.int .i64 m)
  replace hB1 := below_set (j := 0) (v := .int .i64 m) hB1 (g := p3 + 1) (by omega)
  generalize w4.setCell ⟨p3 + 1, 0, none⟩ (.int .i64 m) = w5 at T4 T6 hB1 ⊢
  clear T3' T4' T6' q1 u0 z0
  have u0 := (blk_cell T4 0).trans rfl
  have u1 := (blk_cell T4 1).trans rfl
  have k0 := (blk_cell T6 0).trans rfl
  have k1 := (blk_cell T6 1).trans rfl
  have z0 := blk_frozen T6 0
  have z1 := blk_frozen T6 1
  go_wp2
  refine bodyPost_ret (results_cell_row rfl _ _ (p3 + 2) 28 #[.int .i64 m, .int .i64 y] (0, 0) _ rfl (blk_set (blk_set T6 0 _) 1 _) Try.underlying28 rfl (by kernel_rfl)) rfl ?_
  exact ⟨rfl, below_set (below_set hB1 (by omega)) (by omega)⟩
set_option maxHeartbeats 4000000 in
theorem later_early (c0 c1 c3 : Int) (r t a now k : Nat) (hr : r ≤ 16) (ht : t ≤ 64) (ha : a ≤ 1099511627776) (hn : now ≤ 1099511627776) (h0 : now ≤ a) (hk : k = 0) (m : Int) (hm : m = mn ((t + k * r : Nat) : Int) c1) (w : World) :
  Calls Try.prog 72 #[.agg #[.int .i64 c0, .int .i64 c1, .int .i64 r, .int .i64 c3], .agg #[.int .i64 t, .int .i64 a], .int .i64 now] w fun e w' => e = .returned (.agg #[.int .i64 m, .int .i64 (a + k : Nat)]) ∧ Below w.heap.size w w' := by
 have hkr : k * r ≤ 1099511627776 * 16 := Nat.mul_le_mul (by omega) hr
 have HM := Aside0.mk (mul_pl k r (by omega) (by omega) (by omega))
 have HA := Aside0.mk (add_pl t a (k * r) k (by omega) (by omega))
 have HP := Aside0.mk (fun w => point_calls (t : Int) (a : Int) (fl t) (fl a) rfl rfl w)
 have HB := Aside0.mk (fun w => bucket_calls (t + k * r) (a + k) (by omega) (by omega) w)
 have hs : wrap64 ((now : Int) - (a : Int)) = (now : Int) - (a : Int) := by unfold wrap64; omega
 have h0' : (now : Int) - (a : Int) ≤ 0 := by omega
 have hf : floatOfInt .f64 0 = fl k := by rw [hk]; rfl
 have hf2 : floatOfInt .f64 (r : Int) = fl r := rfl
 generalize fl k = fk at HM HA hf
 generalize fl r = fr at HM hf2
 generalize fl t = ft at HA HP
 generalize fl a = fa at HA HP
 generalize fl (k * r) = fkr at HM HA
 generalize fl (t + k * r) = fz at HA HB
 generalize fl (a + k) = fy at HA HB
 generalize ((t + k * r : Nat) : Int) = z at HB hm ⊢
 generalize ((a + k : Nat) : Int) = y at HB ⊢
 clear hr ht ha hn hk hkr h0
 go_enter Try.func72, Try.ntmps72
 have hB : Below w.heap.size w w := Below.refl _ _
 have hM : Mem w [] := Mem.nil w
 go_upto_region 1 with (fail)
 generalize hg : World.alloc _ _ = w1
 obtain ⟨hB1, hM1, hb⟩ := Mem.new3 hg hB hM
 clear hB hM hg hb
 generalize h3 : w.heap.size = p3 at hM1 ⊢
 have q1 := hM1.cell 2 1 rfl rfl
 have q2 := hM1.cell 2 2 rfl rfl
 have u0 := hM1.cell 1 0 rfl rfl
 have u1 := hM1.cell 1 1 rfl rfl
 go_wp2_with fail
 refine (HP.out w1).mono ?_
 rintro e w2 ⟨rfl, hb⟩
 replace hB1 := below_step hB1 hb
 replace hM1 := hM1.below hb
 clear hb u0 u1 q1 q2 HP
 go_wp2_with (first | (rw [run_complex_mul _ 104 _ _ _ _ _ _ HM.out]; go_simp) | (rw [run_complex_sum _ .add (.inl rfl) 104 .f64 _ _ _ _ _ _ HA.out]; go_simp) | fail)
 refine (HB.out w2).mono ?_
 rintro e w3 ⟨rfl, hb⟩
 replace hB1 := below_step hB1 hb
 replace hM1 := hM1.below hb
 clear hb HB HM HA
 have T3 := hM1.get 2 rfl
 have T4 := hM1.get 1 rfl
 have T6 := hM1.get 0 rfl
 have q1 := hM1.cell 2 1 rfl rfl
 have u0 := (blk_cell T4 0).trans rfl
 have u1 := (blk_cell T4 1).trans rfl
 have z0 := blk_frozen T4 0
 have z1 := blk_frozen T4 1
 clear hM1
 go_upto_region 4 with (fail)
 have T4' := blk_set (blk_set T4 0 (.int .i64 z)) 1 (.int .i64 y)
 have T3' := blk_far (blk_far T3 (p := ⟨p3 + 1, 0, none⟩) (by show p3 ≠ p3 + 1; omega) (.int .i64 z)) (p := ⟨p3 + 1, 1, none⟩) (by show p3 ≠ p3 + 1; omega) (.int .i64 y)
 have T6' := blk_far (blk_far T6 (p := ⟨p3 + 1, 0, none⟩) (by show p3 + 2 ≠ p3 + 1; omega) (.int .i64 z)) (p := ⟨p3 + 1, 1, none⟩) (by show p3 + 2 ≠ p3 + 1; omega) (.int .i64 y)
 replace hB1 := below_set (j := 1) (v := .int .i64 y) (below_set (j := 0) (v := .int .i64 z) hB1 (g := p3 + 1) (by omega)) (g := p3 + 1) (by omega)
 generalize (w3.setCell ⟨p3 + 1, 0, none⟩ (.int .i64 z)).setCell ⟨p3 + 1, 1, none⟩ (.int .i64 y) = w4 at T4' T3' T6' hB1 ⊢
 clear T3 T4 T6 q1 u0 u1 z0 z1
 have q1 := (blk_cell T3' 1).trans rfl
 have u0 := (blk_cell T4' 0).trans rfl
 have z0 := blk_frozen T4' 0
 by_cases hzc : c1 < z
 ·have hmz : m = c1 := by rw [hm]; unfold mn; rw [if_pos hzc]
  subst hmz
  clear hm
  go_upto_region 5 with (fail)
  have T4 := blk_set T4' 0 (.int .i64 m)
  have T6 := blk_far T6' (p := ⟨p3 + 1, 0, none⟩) (by show p3 + 2 ≠ p3 + 1; omega) (.int .i64 m)
  replace hB1 := below_set (j := 0) (v := .int .i64 m) hB1 (g := p3 + 1) (by omega)
  generalize w4.setCell ⟨p3 + 1, 0, none⟩ (.int .i64 m) = w5 at T4 T6 hB1 ⊢
  clear T3' T4' T6' q1 u0 z0
  have u0 := (blk_cell T4 0).trans rfl
  have u1 := (blk_cell T4 1).trans rfl
  have k0 := (blk_cell T6 0).trans rfl
  have k1 := (blk_cell T6 1).trans rfl
  have z0 := blk_frozen T6 0
  have z1 := blk_frozen T6 1
  go_wp2
  refine bodyPost_ret (results_cell_row rfl _ _ (p3 + 2) 28 #[.int .i64 m, .int .i64 y] (0, 0) _ rfl (blk_set (blk_set T6 0 _) 1 _) Try.underlying28 rfl (by kernel_rfl)) rfl ?_
  exact ⟨rfl, below_set (below_set hB1 (by omega)) (by omega)⟩
 ·have hmz : m = z := by rw [hm]; unfold mn; rw [if_neg hzc]
  subst hmz
  clear hm
  have hzc' : m ≤ c1 := by omega
  clear hzc
  go_upto_region 5 with (fail)
  have T4 := blk_set T4' 0 (.int .i64 m)
  have T6 := blk_far T6' (p := ⟨p3 + 1, 0, none⟩) (by show p3 + 2 ≠ p3 + 1; omega) (.int .i64 m)
  replace hB1 := below_set (j := 0) (v := .int .i64 m) hB1 (g := p3 + 1) (by omega)
  generalize w4.setCell ⟨p3 + 1, 0, none⟩ (.int .i64 m) = w5 at T4 T6 hB1 ⊢
  clear T3' T4' T6' q1 u0 z0
  have u0 := (blk_cell T4 0).trans rfl
  have u1 := (blk_cell T4 1).trans rfl
  have k0 := (blk_cell T6 0).trans rfl
  have k1 := (blk_cell T6 1).trans rfl
  have z0 := blk_frozen T6 0
  have z1 := blk_frozen T6 1
  go_wp2
  refine bodyPost_ret (results_cell_row rfl _ _ (p3 + 2) 28 #[.int .i64 m, .int .i64 y] (0, 0) _ rfl (blk_set (blk_set T6 0 _) 1 _) Try.underlying28 rfl (by kernel_rfl)) rfl ?_
  exact ⟨rfl, below_set (below_set hB1 (by omega)) (by omega)⟩
/-- Whether a bucket may be one of a config, and a tick may be. -/
def Fits (c0 c1 c2 c3 t a now : Int) : Prop := 1 ≤ c0 ∧ c0 ≤ 16 ∧ 1 ≤ c1 ∧ c1 ≤ 64 ∧ 1 ≤ c2 ∧ c2 ≤ 16 ∧ 1 ≤ c3 ∧ c3 ≤ 1000 ∧ 0 ≤ t ∧ t ≤ c1 ∧ 0 ≤ a ∧ a ≤ 1099511627776 ∧ 0 ≤ now ∧ now ≤ 1099511627776
instance (c0 c1 c2 c3 t a now : Int) : Decidable (Fits c0 c1 c2 c3 t a now) := by unfold Fits; infer_instance
theorem within_f (n l h : Int) : pace_within.f n l h = some (decide (l ≤ n ∧ n ≤ h)) := by
 unfold pace_within.f
 by_cases c : n ≥ l
 ·rw [if_pos c]
  congr 1
  by_cases d : n ≤ h
  ·rw [decide_eq_true d, decide_eq_true ⟨c, d⟩]
  ·rw [decide_eq_false d, decide_eq_false (fun q => d q.2)]
 ·rw [if_neg c, decide_eq_false (fun q => c q.1)]
theorem fits_f (c0 c1 c2 c3 t a now : Int) : pace_fits.f c0 c1 c2 c3 t a now = some (decide (Fits c0 c1 c2 c3 t a now)) := by
 unfold pace_fits.f pace_May.f
 simp only [within_f, Option.bind_some]
 by_cases h : Fits c0 c1 c2 c3 t a now
 ·rw [decide_eq_true h]
  unfold Fits at h
  obtain ⟨h1, h2, h3, h4, h5, h6, h7, h8, h9, h10, h11, h12, h13, h14⟩ := h
  simp only [h1, h2, h3, h4, h5, h6, h7, h8, h9, h10, h11, h12, h13, h14, and_self, decide_true, if_true, Option.bind_some]
 ·rw [decide_eq_false h]
  unfold Fits at h
  by_cases k1 : 1 ≤ c0 ∧ c0 ≤ 16
  rotate_left
  ·simp [k1]
  by_cases k2 : 1 ≤ c1 ∧ c1 ≤ 64
  rotate_left
  ·simp [k1, k2]
  by_cases k3 : 1 ≤ c2 ∧ c2 ≤ 16
  rotate_left
  ·simp [k1, k2, k3]
  by_cases k4 : 1 ≤ c3 ∧ c3 ≤ 1000
  rotate_left
  ·simp [k1, k2, k3, k4]
  by_cases k5 : 0 ≤ t ∧ t ≤ c1
  rotate_left
  ·simp [k1, k2, k3, k4, k5]
  by_cases k6 : 0 ≤ a ∧ a ≤ 1099511627776
  rotate_left
  ·simp [k1, k2, k3, k4, k5, k6]
  have k7 : ¬ (0 ≤ now ∧ now ≤ 1099511627776) := by omega
  simp [k1, k2, k3, k4, k5, k6, k7]
/-- The ticks that a bucket is behind. -/
def tk (a now : Int) : Int := if a < now then now - a else 0
/-- A bucket's tokens at a tick. -/
def lvl (c1 c2 t a now : Int) : Int := mn (t + tk a now * c2) c1
/-- What is taken. -/
def TK (c0 c1 c2 c3 t a now : Int) : Int × Int × Bool :=
 if Fits c0 c1 c2 c3 t a now then if lvl c1 c2 t a now = 0 then (0, a + tk a now, false) else (lvl c1 c2 t a now - 1, a + tk a now, true) else (t, a, false)
theorem later_any (c0 c1 c2 c3 t a now : Int) (h : Fits c0 c1 c2 c3 t a now) (w : World) :
  Calls Try.prog 72 #[.agg #[.int .i64 c0, .int .i64 c1, .int .i64 c2, .int .i64 c3], .agg #[.int .i64 t, .int .i64 a], .int .i64 now] w fun e w' => e = .returned (.agg #[.int .i64 (lvl c1 c2 t a now), .int .i64 (a + tk a now)]) ∧ Below w.heap.size w w' := by
 unfold Fits at h
 obtain ⟨c, rfl⟩ : ∃ n : Nat, c2 = n := ⟨c2.toNat, by omega⟩
 obtain ⟨t, rfl⟩ : ∃ n : Nat, t = n := ⟨t.toNat, by omega⟩
 obtain ⟨a, rfl⟩ : ∃ n : Nat, a = n := ⟨a.toNat, by omega⟩
 obtain ⟨n, rfl⟩ : ∃ m : Nat, now = m := ⟨now.toNat, by omega⟩
 unfold lvl tk
 by_cases q : a < n
 ·rw [if_pos (by omega)]
  have e1 : ((n : Int) - (a : Int)) = ((n - a : Nat) : Int) := by omega
  have e2 : ((t : Int) + ((n : Int) - (a : Int)) * (c : Int)) = ((t + (n - a) * c : Nat) : Int) := by rw [e1]; simp
  have e3 : ((a : Int) + ((n : Int) - (a : Int))) = ((a + (n - a) : Nat) : Int) := by omega
  rw [e2, e3]
  exact later_late c0 c1 c3 c t a n (n - a) (by omega) (by omega) (by omega) (by omega) q rfl _ rfl w
 ·rw [if_neg (by omega)]
  have e2 : ((t : Int) + 0 * (c : Int)) = ((t + 0 * c : Nat) : Int) := by simp
  have e3 : ((a : Int) + 0) = ((a + 0 : Nat) : Int) := by omega
  rw [e2, e3]
  exact later_early c0 c1 c3 c t a n 0 (by omega) (by omega) (by omega) (by omega) (by omega) rfl _ rfl w
theorem lvl_le {c0 c1 c2 c3 t a now : Int} (h : Fits c0 c1 c2 c3 t a now) : 0 ≤ lvl c1 c2 t a now ∧ lvl c1 c2 t a now ≤ c1 ∧ 0 ≤ a + tk a now ∧ a + tk a now ≤ 1099511627776 := by
 unfold Fits at h
 have ht : 0 ≤ tk a now := by unfold tk; split <;> omega
 have hm : 0 ≤ tk a now * c2 := Int.mul_nonneg ht (by omega)
 refine ⟨?_, ?_, by omega, by unfold tk; split <;> omega⟩
 ·unfold lvl mn
  split <;> omega
 ·unfold lvl mn
  split <;> omega
set_option maxHeartbeats 4000000 in
theorem take_calls (c0 c1 c2 c3 t a now : Int) (w : World) :
  Calls Try.prog 51 #[.agg #[.int .i64 c0, .int .i64 c1, .int .i64 c2, .int .i64 c3], .agg #[.int .i64 t, .int .i64 a], .int .i64 now] w fun e w' => e = .returned (.tuple #[.agg #[.int .i64 (TK c0 c1 c2 c3 t a now).1, .int .i64 (TK c0 c1 c2 c3 t a now).2.1], .bool (TK c0 c1 c2 c3 t a now).2.2]) ∧ Below w.heap.size w w' := by
 have HF := Aside0.mk (fun w => pace_fits.calls c0 c1 c2 c3 t a now _ w (fits_f c0 c1 c2 c3 t a now))
 obtain ⟨K, hK⟩ : ∃ K, K = TK c0 c1 c2 c3 t a now := ⟨_, rfl⟩
 rw [← hK]
 have HK := Aside0.mk hK
 clear hK
 obtain ⟨K1, K2, K3⟩ := K
 dsimp only at ⊢
 go_enter Try.func51, Try.ntmps51
 have hB : Below w.heap.size w w := Below.refl _ _
 have hM : Mem w [] := Mem.nil w
 go_upto_region 1 with (fail)
 generalize hg : World.alloc _ _ = w1
 obtain ⟨hB1, hM1, hb⟩ := Mem.new3 hg hB hM
 clear hB hM hg hb
 generalize h3 : w.heap.size = p3 at hM1 ⊢
 have q0 := hM1.cell 2 0 rfl rfl
 have q1 := hM1.cell 2 1 rfl rfl
 have q2 := hM1.cell 2 2 rfl rfl
 have q3 := hM1.cell 2 3 rfl rfl
 have u0 := hM1.cell 1 0 rfl rfl
 have u1 := hM1.cell 1 1 rfl rfl
 go_wp2_with fail
 refine (HF.out w1).mono ?_
 rintro e w2 ⟨rfl, hb⟩
 replace hB1 := below_step hB1 hb
 replace hM1 := hM1.below hb
 clear hb HF q0 q1 q2 q3 u0 u1
 have T3 := hM1.get 2 rfl
 have T4 := hM1.get 1 rfl
 have T6 := hM1.get 0 rfl
 clear hM1
 by_cases hf : Fits c0 c1 c2 c3 t a now
 ·rw [decide_eq_true hf]
  have HL := Aside0.mk (fun w => later_any c0 c1 c2 c3 t a now hf w)
  obtain ⟨l0, l1, l2, l3⟩ := lvl_le hf
  have hk := HK.out
  unfold TK at hk
  rw [if_pos hf] at hk
  have l5 : lvl c1 c2 t a now ≤ 64 := by unfold Fits at hf; omega
  generalize lvl c1 c2 t a now = z at HL l0 l1 hk l5
  generalize a + tk a now = y at HL l2 l3 hk
  have q0 := (blk_cell T3 0).trans rfl
  have q1 := (blk_cell T3 1).trans rfl
  have q2 := (blk_cell T3 2).trans rfl
  have q3 := (blk_cell T3 3).trans rfl
  have u0 := (blk_cell T4 0).trans rfl
  have u1 := (blk_cell T4 1).trans rfl
  have HK2 := Aside0.mk hk
  clear hk HK l1 hf
  go_wp2_with fail
  refine (HL.out w2).mono ?_
  rintro e w3 ⟨rfl, hb⟩
  replace hB1 := below_step hB1 hb
  replace T4 := blk_below T4 hb
  replace T6 := blk_below T6 hb
  clear hb HL q0 q1 q2 q3 u0 u1 T3
  have u0 := (blk_cell T4 0).trans rfl
  have u1 := (blk_cell T4 1).trans rfl
  have z0 := blk_frozen T4 0
  have z1 := blk_frozen T4 1
  go_upto_region 4 with (fail)
  have T4' := blk_set (blk_set T4 0 (.int .i64 z)) 1 (.int .i64 y)
  have T6' := blk_far (blk_far T6 (p := ⟨p3 + 1, 0, none⟩) (by show p3 + 2 ≠ p3 + 1; omega) (.int .i64 z)) (p := ⟨p3 + 1, 1, none⟩) (by show p3 + 2 ≠ p3 + 1; omega) (.int .i64 y)
  replace hB1 := below_set (j := 1) (v := .int .i64 y) (below_set (j := 0) (v := .int .i64 z) hB1 (g := p3 + 1) (by omega)) (g := p3 + 1) (by omega)
  generalize (w3.setCell ⟨p3 + 1, 0, none⟩ (.int .i64 z)).setCell ⟨p3 + 1, 1, none⟩ (.int .i64 y) = w4 at T4' T6' hB1 ⊢
  clear T4 T6 u0 u1 z0 z1
  have u0 := (blk_cell T4' 0).trans rfl
  have u1 := (blk_cell T4' 1).trans rfl
  by_cases hz : z = 0
  ·have hk := HK2.out
   rw [if_pos hz] at hk
   obtain ⟨rfl, rfl, rfl⟩ : K1 = 0 ∧ K2 = y ∧ K3 = false := by injection hk with h1 h2; injection h2 with h2 h3; exact ⟨h1, h2, h3⟩
   subst hz
   have k0 := (blk_cell T6' 0).trans rfl
   have k1 := (blk_cell T6' 1).trans rfl
   have z0 := blk_frozen T6' 0
   have z1 := blk_frozen T6' 1
   go_wp2
   refine bodyPost_ret (results_ct rfl _ _ (p3 + 1 + 1) 28 #[.int .i64 0, .int .i64 K2] (0, 0) _ rfl (blk_set (blk_set T6' 0 _) 1 _) Try.underlying28 rfl (by kernel_rfl)) rfl ?_
   subst h3
   exact ⟨rfl, below_set (below_set hB1 (by omega)) (by omega)⟩
  ·have hk := HK2.out
   rw [if_neg hz] at hk
   obtain ⟨rfl, rfl, rfl⟩ : K1 = z - 1 ∧ K2 = y ∧ K3 = true := by injection hk with h1 h2; injection h2 with h2 h3; exact ⟨h1, h2, h3⟩
   obtain ⟨zn, rfl⟩ : ∃ n : Nat, z = n := ⟨z.toNat, by omega⟩
   obtain ⟨yn, rfl⟩ : ∃ n : Nat, K2 = n := ⟨K2.toNat, by omega⟩
   have HP := Aside0.mk (fun w => point_calls (zn : Int) (yn : Int) (fl zn) (fl yn) rfl rfl w)
   have HS := Aside0.mk (sub_pl zn yn (by omega) (by omega) (by omega))
   have HBu := Aside0.mk (fun w => bucket_calls (zn - 1) yn (by omega) (by omega) w)
   rw [show ((zn - 1 : Nat) : Int) = (zn : Int) - 1 by omega] at HBu
   generalize fl zn = f1 at HP HS
   generalize fl (zn - 1) = f3 at HBu HS
   generalize fl yn = f2 at HP HS HBu
   clear HK2 hk l0 l2 l3 l5
   generalize hzi : (zn : Int) - 1 = zi at HBu ⊢
   have hz' : ¬ (zn : Int) = 0 := hz
   go_wp2_with fail
   refine (HP.out w4).mono ?_
   rintro e w5 ⟨rfl, hb⟩
   replace hB1 := below_step hB1 hb
   replace T6' := blk_below T6' hb
   clear hb HP u0 u1 T4'
   go_wp2_with (first | (rw [run_complex_sum _ .sub (.inr rfl) 104 .f64 _ _ _ _ _ _ HS.out]; go_simp) | fail)
   refine (HBu.out w5).mono ?_
   rintro e w6 ⟨rfl, hb⟩
   replace hB1 := below_step hB1 hb
   replace T6' := blk_below T6' hb
   clear hb HBu HS
   have k0 := (blk_cell T6' 0).trans rfl
   have k1 := (blk_cell T6' 1).trans rfl
   have z0 := blk_frozen T6' 0
   have z1 := blk_frozen T6' 1
   go_wp2
   refine bodyPost_ret (results_ct rfl _ _ (p3 + 1 + 1) 28 #[.int .i64 zi, .int .i64 yn] (0, 0) _ rfl (blk_set (blk_set T6' 0 _) 1 _) Try.underlying28 rfl (by kernel_rfl)) rfl ?_
   subst hzi
   subst h3
   exact ⟨rfl, below_set (below_set hB1 (by omega)) (by omega)⟩
 ·rw [decide_eq_false hf]
  have hk := HK.out
  unfold TK at hk
  rw [if_neg hf] at hk
  obtain ⟨rfl, rfl, rfl⟩ : K1 = t ∧ K2 = a ∧ K3 = false := by injection hk with h1 h2; injection h2 with h2 h3; exact ⟨h1, h2, h3⟩
  clear hk HK hf
  have u0 := (blk_cell T4 0).trans rfl
  have u1 := (blk_cell T4 1).trans rfl
  have k0 := (blk_cell T6 0).trans rfl
  have k1 := (blk_cell T6 1).trans rfl
  have z0 := blk_frozen T6 0
  have z1 := blk_frozen T6 1
  go_wp2
  refine bodyPost_ret (results_ct rfl _ _ (p3 + 1 + 1) 28 #[.int .i64 K1, .int .i64 K2] (0, 0) _ rfl (blk_set (blk_set T6 0 _) 1 _) Try.underlying28 rfl (by kernel_rfl)) rfl ?_
  subst h3
  exact ⟨rfl, below_set (below_set hB1 (by omega)) (by omega)⟩
end Go.Proofs.Ytmigglldahkngaa.XPace
end

section
/- link's Emit, walked: what any link tells next. -/
namespace Go.Proofs.Ytmigglldahkngaa.XTell
open Go.RowKit Go.Proofs.YtmigglldahkngaaW.PrintWords Go.Proofs.YtmigglldahkngaaW.PrintLast Go.Proofs.YtmigglldahkngaaW.PrintMore Go.Proofs.Ytmigglldahkngaa.PA Go.Proofs.Ytmigglldahkngaa.XMem Go.Proofs.Ytmigglldahkngaa.XSum Go.Proofs.Ytmigglldahkngaa.XQuiet
open Go.Proofs.Ytmigglldahkngaa.XPace (TK take_calls Mem.new3)
set_option linter.unusedVariables false
set_option linter.unusedSimpArgs false
set_option maxRecDepth 100000
/-- A link that tells, and what it has told. -/
structure St where
 s : Int
 q : List Ch
 sn : Bool
 tok : Int
 at_ : Int
 dg : Int
 fs : List Fr
/-- What is told next. -/
def nextP (c3 now : Int) (t : List Se) (st : St) : Option (Fr × List Ch × Bool × Int) :=
 if st.sn = true then some (⟨3, st.s, false, ⟨#[]⟩, ⟨0, 0, 0, ⟨#[]⟩⟩, 0, t⟩, st.q, false, now) else
 match st.q with
 | x :: l => some (⟨1, st.s, x.f1, x.f0, ⟨x.f2.f0, x.f2.f1, x.f2.f2, x.f2.f3⟩, 0, []⟩, l, false, st.dg)
 | [] => if now - st.dg < c3 then none else some (⟨2, st.s, false, ⟨#[]⟩, ⟨0, 0, 0, ⟨#[]⟩⟩, sumB t, []⟩, [], false, now)
/-- All that is told. -/
def emitP (c0 c1 c2 c3 now : Int) (t : List Se) : Nat → St → Option St
 | 0, _ => none
 | k + 1, st => if st.s < 1099511627776 then
   if (TK c0 c1 c2 c3 st.tok st.at_ now).2.2 = true then
    match nextP c3 now t st with
    | none => some st
    | some (f, q, sn, dg) => emitP c0 c1 c2 c3 now t k ⟨st.s + 1, q, sn, (TK c0 c1 c2 c3 st.tok st.at_ now).1, (TK c0 c1 c2 c3 st.tok st.at_ now).2.1, dg, st.fs ++ [f]⟩
   else some st
  else some st
/-- A frame's cells. -/
abbrev FC (f : Fr) (v : Value) : List Value := [.int .i64 f.f0, .int .i64 f.f1, .bool f.f2, .string f.f3, .int .i64 f.f4.f0, .int .i64 f.f4.f1, .int .i64 f.f4.f2, .string f.f4.f3, .int .u64 f.f5, v]
set_option maxHeartbeats 1000000 in
theorem next_some (c0 c1 c2 c3 now : Int) (t : List Se) (s : Int) (q : List Ch) (sn : Bool) (tok at_ dg : Int) (fs : List Fr) (f : Fr) (q' : List Ch) (sn' : Bool) (dg' : Int) (hx : nextP c3 now t ⟨s, q, sn, tok, at_, dg, fs⟩ = some (f, q', sn', dg'))
  (A : Option Addr) (cc : Nat) (B : Option Addr) (mc : Nat) (p : Nat) (w0 w : World) (hB : Below w0.heap.size w0 w) (hp : w0.heap.size ≤ p) (hs0 : 0 ≤ s) (hs : s < 1099511627776) (h0 : 0 ≤ dg) (h1 : dg ≤ 1099511627776) (h2 : 0 ≤ now) (h3 : now ≤ 1099511627776)
  (k0 : Nat) (hl : t.length ≤ 40) (hm : digest_May.f k0 t = some true) (hz : ∀ x ∈ t, x.f0.size ≤ 9223372036854775807) (ok : Nat → Prop) (hok : ∀ k, ok k → k ≠ p) (hnew : ∀ k, w.heap.size ≤ k → ok k)
  (hv : Kd.V kCh 34 w 0 ok (.slice A q.length cc) q) (hvt : Kd.V kSe 72 w 0 ok (.slice B t.length mc) t)
  (tp : w.heap[p]? = some (.cells (tc s (.slice A q.length cc) false tok at_ sn dg c0 c1 c2 c3 (.slice B t.length mc) now) TT (0, 0))) :
  Calls Try.prog 52 #[.pointer (some ⟨p, 0, none⟩)] w fun e w' => ∃ (A' : Option Addr) (c' : Nat) (A'' : Option Addr) (n'' c'' : Nat), e = .returned (.tuple #[.agg (FC f (.slice A'' n'' c'')).toArray, .bool true]) ∧ Next w0 w w' p (tc (s + 1) (.slice A' q'.length c') false tok at_ sn' dg' c0 c1 c2 c3 (.slice B t.length mc) now) ∧ Kd.V kCh 34 w' 0 ok (.slice A' q'.length c') q' ∧ (∀ W, Kd.V kSe 72 W 0 ok (.slice B t.length mc) t → Kd.FK kFr W ok f (FC f (.slice A'' n'' c''))) := by
 have nilF : ∀ (W : World) (x : Fr), x.f6 = [] → Kd.FK kFr W ok x (FC x (.slice none 0 0)) := fun W x hx => by
  have hF := (Kd.V_at (Kd.V_nil kSe 72 W 0 ok)).2.2
  have := k60_mkF W ok x (A9 := none) (c9 := 0) (by rw [hx]; exact Nat.le_refl _) (by rw [hx]; exact hF)
  rw [hx] at this
  exact this
 unfold nextP at hx
 cases sn with
 | true =>
  rw [if_pos rfl] at hx
  simp only [Option.some.injEq, Prod.mk.injEq] at hx
  obtain ⟨rfl, rfl, rfl, rfl⟩ := hx
  refine (next_snap s A q.length cc tok at_ dg c0 c1 c2 c3 B t.length mc now p w0 w hB hp hs0 hs tp).mono ?_
  rintro e w' ⟨rfl, hN⟩
  refine ⟨A, cc, B, t.length, mc, rfl, hN, Kd.V_step hv (fun k ho hlt => hN.keep k hlt (hok k ho)), fun W hW => ?_⟩
  exact k60_mkF W ok (⟨3, s, false, ⟨#[]⟩, ⟨0, 0, 0, ⟨#[]⟩⟩, 0, t⟩ : Fr) (Kd.V_at hW).2.1 (Kd.V_at hW).2.2
 | false =>
  rw [if_neg (by simp)] at hx
  cases q with
  | cons x l =>
   simp only [Option.some.injEq, Prod.mk.injEq] at hx
   obtain ⟨rfl, rfl, rfl, rfl⟩ := hx
   refine (next_delta s A cc tok at_ dg c0 c1 c2 c3 B t.length mc now p w0 w hB hp hs0 hs x l ok hok hnew hv tp).mono ?_
   rintro e w' ⟨A', c', rfl, hN, hV⟩
   exact ⟨A', c', none, 0, 0, rfl, hN, hV, fun W _ => nilF W _ rfl⟩
  | nil =>
   by_cases hd : now - dg < c3
   ·simp only [if_pos hd] at hx
    cases hx
   ·simp only [if_neg hd, Option.some.injEq, Prod.mk.injEq] at hx
    obtain ⟨rfl, rfl, rfl, rfl⟩ := hx
    refine (next_digest s A cc tok at_ dg c0 c1 c2 c3 B mc now p w0 w hB hp hs0 hs (Kd.V_mono hv hok) h0 h1 h2 h3 (by omega) k0 t hl hm hz (Kd.V_mono hvt hok) tp).mono ?_
    rintro e w' ⟨rfl, hN⟩
    exact ⟨A, cc, none, 0, 0, rfl, hN, Kd.V_step hv (fun k ho hlt => hN.keep k hlt (hok k ho)), fun W _ => nilF W _ rfl⟩
theorem next_no (c3 now : Int) (t : List Se) (s : Int) (q : List Ch) (sn : Bool) (tok at_ dg : Int) (fs : List Fr) (hx : nextP c3 now t ⟨s, q, sn, tok, at_, dg, fs⟩ = none) : sn = false ∧ q = [] ∧ now - dg < c3 := by
 unfold nextP at hx
 cases sn with
 | true => rw [if_pos rfl] at hx; cases hx
 | false =>
  rw [if_neg (by simp)] at hx
  cases q with
  | cons x l => cases hx
  | nil =>
   by_cases hd : now - dg < c3
   ·exact ⟨rfl, rfl, hd⟩
   ·simp only [if_neg hd] at hx; cases hx
theorem next_dg {c3 now : Int} {t : List Se} {s : Int} {q : List Ch} {sn : Bool} {tok at_ dg : Int} {fs : List Fr} {f : Fr} {q' : List Ch} {sn' : Bool} {dg' : Int} (hx : nextP c3 now t ⟨s, q, sn, tok, at_, dg, fs⟩ = some (f, q', sn', dg')) (h0 : 0 ≤ dg) (h1 : dg ≤ 1099511627776) (h2 : 0 ≤ now) (h3 : now ≤ 1099511627776) : 0 ≤ dg' ∧ dg' ≤ 1099511627776 := by
 unfold nextP at hx
 cases sn with
 | true =>
  rw [if_pos rfl] at hx
  simp only [Option.some.injEq, Prod.mk.injEq] at hx
  obtain ⟨_, _, _, rfl⟩ := hx
  exact ⟨h2, h3⟩
 | false =>
  rw [if_neg (by simp)] at hx
  cases q with
  | cons x l =>
   simp only [Option.some.injEq, Prod.mk.injEq] at hx
   obtain ⟨_, _, _, rfl⟩ := hx
   exact ⟨h0, h1⟩
  | nil =>
   by_cases hd : now - dg < c3
   ·simp only [if_pos hd] at hx
    cases hx
   ·simp only [if_neg hd, Option.some.injEq, Prod.mk.injEq] at hx
    obtain ⟨_, _, _, rfl⟩ := hx
    exact ⟨h2, h3⟩
abbrev TL : TypeId := 30
/-- A link that may not be, or a view, or a tick: nothing is told. -/
theorem emit_no (k1 k2 : Nat) (c0 c1 c2 c3 s : Int) (A : Option Addr) (cc : Nat) (q : List Ch) (lat : Bool) (tok at_ : Int) (sn : Bool) (dg : Int) (B : Option Addr) (mc : Nat) (t : List Se) (now : Int) (b1 b2 b3 : Bool) (w : World)
  (hq : Kd.C kCh w A q.length q) (hqc : q.length ≤ cc) (ht : Kd.C kSe w B t.length t) (htc : t.length ≤ mc)
  (h1 : link_May.f k1 c0 c1 c2 c3 s q lat tok at_ sn dg = some b1) (h2 : digest_May.f k2 t = some b2) (h3 : link_time.f now = some b3) (hb : (b1 && b2 && b3) = false) :
  Calls Try.prog 24 #[.agg #[.int .i64 c0, .int .i64 c1, .int .i64 c2, .int .i64 c3], .agg #[.int .i64 s, .slice A q.length cc, .bool lat, .int .i64 tok, .int .i64 at_, .bool sn, .int .i64 dg], .slice B t.length mc, .int .i64 now] w
   fun e w' => e = .returned (.tuple #[.agg #[.int .i64 s, .slice A q.length cc, .bool lat, .int .i64 tok, .int .i64 at_, .bool sn, .int .i64 dg], .slice none 0 0]) ∧ Below w.heap.size w w' := by
 have H1 := Aside0.mk (fun (w' : World) (hb : Below w.heap.size w w') => link_May.calls k1 c0 c1 c2 c3 s A cc q lat tok at_ sn dg b1 w' (Kd.C_below hq hb) hqc h1)
 have H2 := Aside0.mk (fun (w' : World) (hb : Below w.heap.size w w') => digest_May.calls k2 B mc t b2 w' (Kd.C_below ht hb) htc h2)
 have H3 := Aside0.mk (fun (w' : World) => link_time.calls now b3 w' h3)
 clear hq hqc ht htc h1 h2 h3
 go_enter Try.func24, Try.ntmps24
 have HB : Below w.heap.size w w := Below.refl _ _
 have hM : Mem w [] := Mem.nil w
 go_upto_region 1 with (fail)
 generalize hg : World.alloc _ _ = w1
 obtain ⟨hB1, hM1, _⟩ := Mem.new3 hg HB hM
 clear HB hM hg
 generalize h4 : w.heap.size = p4 at hM1 ⊢
 have T4 := hM1.get 2 rfl
 have T5 := hM1.get 1 rfl
 have T8 := hM1.get 0 rfl
 have c0_ := hM1.cell 2 0 rfl rfl
 have c1_ := hM1.cell 2 1 rfl rfl
 have c2_ := hM1.cell 2 2 rfl rfl
 have c3_ := hM1.cell 2 3 rfl rfl
 have l0_ := hM1.cell 1 0 rfl rfl
 have l1_ := hM1.cell 1 1 rfl rfl
 have l2_ := hM1.cell 1 2 rfl rfl
 have l3_ := hM1.cell 1 3 rfl rfl
 have l4_ := hM1.cell 1 4 rfl rfl
 have l5_ := hM1.cell 1 5 rfl rfl
 have l6_ := hM1.cell 1 6 rfl rfl
 have hg8 : w.heap.size ≤ p4 + 1 + 1 := by omega
 clear hM1
 go_wp2_with fail
 refine (H1.out w1 hB1).mono ?_
 rintro e w2 ⟨rfl, hb2⟩
 clear c0_ c1_ c2_ c3_ l0_ l1_ l2_ l3_ l4_ l5_ l6_
 replace hB1 := below_step hB1 hb2
 replace T4 := blk_below T4 hb2
 replace T5 := blk_below T5 hb2
 replace T8 := blk_below T8 hb2
 clear hb2 
 cases b1 with
 | false =>
  have l0_ := (blk_cell T5 0).trans rfl
  have l1_ := (blk_cell T5 1).trans rfl
  have l2_ := (blk_cell T5 2).trans rfl
  have l3_ := (blk_cell T5 3).trans rfl
  have l4_ := (blk_cell T5 4).trans rfl
  have l5_ := (blk_cell T5 5).trans rfl
  have l6_ := (blk_cell T5 6).trans rfl
  have k0 := (blk_cell T8 0).trans rfl
  have z0 := blk_frozen T8 0
  have k1 := (blk_cell T8 1).trans rfl
  have z1 := blk_frozen T8 1
  have k2 := (blk_cell T8 2).trans rfl
  have z2 := blk_frozen T8 2
  have k3 := (blk_cell T8 3).trans rfl
  have z3 := blk_frozen T8 3
  have k4 := (blk_cell T8 4).trans rfl
  have z4 := blk_frozen T8 4
  have k5 := (blk_cell T8 5).trans rfl
  have z5 := blk_frozen T8 5
  have k6 := (blk_cell T8 6).trans rfl
  have z6 := blk_frozen T8 6
  go_wp2
  have b0 : (w2.setCell ⟨(p4 + 1 + 1), 0, none⟩ (.int .i64 s)).heap[(p4 + 1 + 1)]? = some (.cells #[(.int .i64 s), (.slice none 0 0), (.bool false), (.int .i64 0), (.int .i64 0), (.bool false), (.int .i64 0)] TL (0, 0)) := blk_set T8 0 _
  have n0 := below_set (j := 0) (v := (.int .i64 s)) hB1 (g := (p4 + 1 + 1)) hg8
  have b1 : ((w2.setCell ⟨(p4 + 1 + 1), 0, none⟩ (.int .i64 s)).setCell ⟨(p4 + 1 + 1), 1, none⟩ (.slice A q.length cc)).heap[(p4 + 1 + 1)]? = some (.cells #[(.int .i64 s), (.slice A q.length cc), (.bool false), (.int .i64 0), (.int .i64 0), (.bool false), (.int .i64 0)] TL (0, 0)) := blk_set b0 1 _
  have n1 := below_set (j := 1) (v := (.slice A q.length cc)) n0 (g := (p4 + 1 + 1)) hg8
  have b2 : (((w2.setCell ⟨(p4 + 1 + 1), 0, none⟩ (.int .i64 s)).setCell ⟨(p4 + 1 + 1), 1, none⟩ (.slice A q.length cc)).setCell ⟨(p4 + 1 + 1), 2, none⟩ (.bool lat)).heap[(p4 + 1 + 1)]? = some (.cells #[(.int .i64 s), (.slice A q.length cc), (.bool lat), (.int .i64 0), (.int .i64 0), (.bool false), (.int .i64 0)] TL (0, 0)) := blk_set b1 2 _
  have n2 := below_set (j := 2) (v := (.bool lat)) n1 (g := (p4 + 1 + 1)) hg8
  have b3 : ((((w2.setCell ⟨(p4 + 1 + 1), 0, none⟩ (.int .i64 s)).setCell ⟨(p4 + 1 + 1), 1, none⟩ (.slice A q.length cc)).setCell ⟨(p4 + 1 + 1), 2, none⟩ (.bool lat)).setCell ⟨(p4 + 1 + 1), 3, none⟩ (.int .i64 tok)).heap[(p4 + 1 + 1)]? = some (.cells #[(.int .i64 s), (.slice A q.length cc), (.bool lat), (.int .i64 tok), (.int .i64 0), (.bool false), (.int .i64 0)] TL (0, 0)) := blk_set b2 3 _
  have n3 := below_set (j := 3) (v := (.int .i64 tok)) n2 (g := (p4 + 1 + 1)) hg8
  have b4 : (((((w2.setCell ⟨(p4 + 1 + 1), 0, none⟩ (.int .i64 s)).setCell ⟨(p4 + 1 + 1), 1, none⟩ (.slice A q.length cc)).setCell ⟨(p4 + 1 + 1), 2, none⟩ (.bool lat)).setCell ⟨(p4 + 1 + 1), 3, none⟩ (.int .i64 tok)).setCell ⟨(p4 + 1 + 1), 4, none⟩ (.int .i64 at_)).heap[(p4 + 1 + 1)]? = some (.cells #[(.int .i64 s), (.slice A q.length cc), (.bool lat), (.int .i64 tok), (.int .i64 at_), (.bool false), (.int .i64 0)] TL (0, 0)) := blk_set b3 4 _
  have n4 := below_set (j := 4) (v := (.int .i64 at_)) n3 (g := (p4 + 1 + 1)) hg8
  have b5 : ((((((w2.setCell ⟨(p4 + 1 + 1), 0, none⟩ (.int .i64 s)).setCell ⟨(p4 + 1 + 1), 1, none⟩ (.slice A q.length cc)).setCell ⟨(p4 + 1 + 1), 2, none⟩ (.bool lat)).setCell ⟨(p4 + 1 + 1), 3, none⟩ (.int .i64 tok)).setCell ⟨(p4 + 1 + 1), 4, none⟩ (.int .i64 at_)).setCell ⟨(p4 + 1 + 1), 5, none⟩ (.bool sn)).heap[(p4 + 1 + 1)]? = some (.cells #[(.int .i64 s), (.slice A q.length cc), (.bool lat), (.int .i64 tok), (.int .i64 at_), (.bool sn), (.int .i64 0)] TL (0, 0)) := blk_set b4 5 _
  have n5 := below_set (j := 5) (v := (.bool sn)) n4 (g := (p4 + 1 + 1)) hg8
  have b6 : (((((((w2.setCell ⟨(p4 + 1 + 1), 0, none⟩ (.int .i64 s)).setCell ⟨(p4 + 1 + 1), 1, none⟩ (.slice A q.length cc)).setCell ⟨(p4 + 1 + 1), 2, none⟩ (.bool lat)).setCell ⟨(p4 + 1 + 1), 3, none⟩ (.int .i64 tok)).setCell ⟨(p4 + 1 + 1), 4, none⟩ (.int .i64 at_)).setCell ⟨(p4 + 1 + 1), 5, none⟩ (.bool sn)).setCell ⟨(p4 + 1 + 1), 6, none⟩ (.int .i64 dg)).heap[(p4 + 1 + 1)]? = some (.cells #[(.int .i64 s), (.slice A q.length cc), (.bool lat), (.int .i64 tok), (.int .i64 at_), (.bool sn), (.int .i64 dg)] TL (0, 0)) := blk_set b5 6 _
  have n6 := below_set (j := 6) (v := (.int .i64 dg)) n5 (g := (p4 + 1 + 1)) hg8
  generalize hwf : (((((((w2.setCell ⟨(p4 + 1 + 1), 0, none⟩ (.int .i64 s)).setCell ⟨(p4 + 1 + 1), 1, none⟩ (.slice A q.length cc)).setCell ⟨(p4 + 1 + 1), 2, none⟩ (.bool lat)).setCell ⟨(p4 + 1 + 1), 3, none⟩ (.int .i64 tok)).setCell ⟨(p4 + 1 + 1), 4, none⟩ (.int .i64 at_)).setCell ⟨(p4 + 1 + 1), 5, none⟩ (.bool sn)).setCell ⟨(p4 + 1 + 1), 6, none⟩ (.int .i64 dg)) = wf at b6 n6 ⊢
  clear b0 n0 b1 n1 b2 n2 b3 n3 b4 n4 b5 n5
  refine bodyPost_ret (results_ct rfl _ _ (p4 + 1 + 1) TL #[(.int .i64 s), (.slice A q.length cc), (.bool lat), (.int .i64 tok), (.int .i64 at_), (.bool sn), (.int .i64 dg)] (0, 0) _ rfl b6 Try.underlying30 rfl (by kernel_rfl)) rfl ?_
  exact ⟨rfl, n6⟩
 | true =>
  go_wp2_with fail
  refine (H2.out w2 hB1).mono ?_
  rintro e w3 ⟨rfl, hb2⟩
  replace hB1 := below_step hB1 hb2
  replace T4 := blk_below T4 hb2
  replace T5 := blk_below T5 hb2
  replace T8 := blk_below T8 hb2
  clear hb2 
  cases b2 with
  | false =>
   have l0_ := (blk_cell T5 0).trans rfl
   have l1_ := (blk_cell T5 1).trans rfl
   have l2_ := (blk_cell T5 2).trans rfl
   have l3_ := (blk_cell T5 3).trans rfl
   have l4_ := (blk_cell T5 4).trans rfl
   have l5_ := (blk_cell T5 5).trans rfl
   have l6_ := (blk_cell T5 6).trans rfl
   have k0 := (blk_cell T8 0).trans rfl
   have z0 := blk_frozen T8 0
   have k1 := (blk_cell T8 1).trans rfl
   have z1 := blk_frozen T8 1
   have k2 := (blk_cell T8 2).trans rfl
   have z2 := blk_frozen T8 2
   have k3 := (blk_cell T8 3).trans rfl
   have z3 := blk_frozen T8 3
   have k4 := (blk_cell T8 4).trans rfl
   have z4 := blk_frozen T8 4
   have k5 := (blk_cell T8 5).trans rfl
   have z5 := blk_frozen T8 5
   have k6 := (blk_cell T8 6).trans rfl
   have z6 := blk_frozen T8 6
   go_wp2
   have b0 : (w3.setCell ⟨(p4 + 1 + 1), 0, none⟩ (.int .i64 s)).heap[(p4 + 1 + 1)]? = some (.cells #[(.int .i64 s), (.slice none 0 0), (.bool false), (.int .i64 0), (.int .i64 0), (.bool false), (.int .i64 0)] TL (0, 0)) := blk_set T8 0 _
   have n0 := below_set (j := 0) (v := (.int .i64 s)) hB1 (g := (p4 + 1 + 1)) hg8
   have b1 : ((w3.setCell ⟨(p4 + 1 + 1), 0, none⟩ (.int .i64 s)).setCell ⟨(p4 + 1 + 1), 1, none⟩ (.slice A q.length cc)).heap[(p4 + 1 + 1)]? = some (.cells #[(.int .i64 s), (.slice A q.length cc), (.bool false), (.int .i64 0), (.int .i64 0), (.bool false), (.int .i64 0)] TL (0, 0)) := blk_set b0 1 _
   have n1 := below_set (j := 1) (v := (.slice A q.length cc)) n0 (g := (p4 + 1 + 1)) hg8
   have b2 : (((w3.setCell ⟨(p4 + 1 + 1), 0, none⟩ (.int .i64 s)).setCell ⟨(p4 + 1 + 1), 1, none⟩ (.slice A q.length cc)).setCell ⟨(p4 + 1 + 1), 2, none⟩ (.bool lat)).heap[(p4 + 1 + 1)]? = some (.cells #[(.int .i64 s), (.slice A q.length cc), (.bool lat), (.int .i64 0), (.int .i64 0), (.bool false), (.int .i64 0)] TL (0, 0)) := blk_set b1 2 _
   have n2 := below_set (j := 2) (v := (.bool lat)) n1 (g := (p4 + 1 + 1)) hg8
   have b3 : ((((w3.setCell ⟨(p4 + 1 + 1), 0, none⟩ (.int .i64 s)).setCell ⟨(p4 + 1 + 1), 1, none⟩ (.slice A q.length cc)).setCell ⟨(p4 + 1 + 1), 2, none⟩ (.bool lat)).setCell ⟨(p4 + 1 + 1), 3, none⟩ (.int .i64 tok)).heap[(p4 + 1 + 1)]? = some (.cells #[(.int .i64 s), (.slice A q.length cc), (.bool lat), (.int .i64 tok), (.int .i64 0), (.bool false), (.int .i64 0)] TL (0, 0)) := blk_set b2 3 _
   have n3 := below_set (j := 3) (v := (.int .i64 tok)) n2 (g := (p4 + 1 + 1)) hg8
   have b4 : (((((w3.setCell ⟨(p4 + 1 + 1), 0, none⟩ (.int .i64 s)).setCell ⟨(p4 + 1 + 1), 1, none⟩ (.slice A q.length cc)).setCell ⟨(p4 + 1 + 1), 2, none⟩ (.bool lat)).setCell ⟨(p4 + 1 + 1), 3, none⟩ (.int .i64 tok)).setCell ⟨(p4 + 1 + 1), 4, none⟩ (.int .i64 at_)).heap[(p4 + 1 + 1)]? = some (.cells #[(.int .i64 s), (.slice A q.length cc), (.bool lat), (.int .i64 tok), (.int .i64 at_), (.bool false), (.int .i64 0)] TL (0, 0)) := blk_set b3 4 _
   have n4 := below_set (j := 4) (v := (.int .i64 at_)) n3 (g := (p4 + 1 + 1)) hg8
   have b5 : ((((((w3.setCell ⟨(p4 + 1 + 1), 0, none⟩ (.int .i64 s)).setCell ⟨(p4 + 1 + 1), 1, none⟩ (.slice A q.length cc)).setCell ⟨(p4 + 1 + 1), 2, none⟩ (.bool lat)).setCell ⟨(p4 + 1 + 1), 3, none⟩ (.int .i64 tok)).setCell ⟨(p4 + 1 + 1), 4, none⟩ (.int .i64 at_)).setCell ⟨(p4 + 1 + 1), 5, none⟩ (.bool sn)).heap[(p4 + 1 + 1)]? = some (.cells #[(.int .i64 s), (.slice A q.length cc), (.bool lat), (.int .i64 tok), (.int .i64 at_), (.bool sn), (.int .i64 0)] TL (0, 0)) := blk_set b4 5 _
   have n5 := below_set (j := 5) (v := (.bool sn)) n4 (g := (p4 + 1 + 1)) hg8
   have b6 : (((((((w3.setCell ⟨(p4 + 1 + 1), 0, none⟩ (.int .i64 s)).setCell ⟨(p4 + 1 + 1), 1, none⟩ (.slice A q.length cc)).setCell ⟨(p4 + 1 + 1), 2, none⟩ (.bool lat)).setCell ⟨(p4 + 1 + 1), 3, none⟩ (.int .i64 tok)).setCell ⟨(p4 + 1 + 1), 4, none⟩ (.int .i64 at_)).setCell ⟨(p4 + 1 + 1), 5, none⟩ (.bool sn)).setCell ⟨(p4 + 1 + 1), 6, none⟩ (.int .i64 dg)).heap[(p4 + 1 + 1)]? = some (.cells #[(.int .i64 s), (.slice A q.length cc), (.bool lat), (.int .i64 tok), (.int .i64 at_), (.bool sn), (.int .i64 dg)] TL (0, 0)) := blk_set b5 6 _
   have n6 := below_set (j := 6) (v := (.int .i64 dg)) n5 (g := (p4 + 1 + 1)) hg8
   generalize hwf : (((((((w3.setCell ⟨(p4 + 1 + 1), 0, none⟩ (.int .i64 s)).setCell ⟨(p4 + 1 + 1), 1, none⟩ (.slice A q.length cc)).setCell ⟨(p4 + 1 + 1), 2, none⟩ (.bool lat)).setCell ⟨(p4 + 1 + 1), 3, none⟩ (.int .i64 tok)).setCell ⟨(p4 + 1 + 1), 4, none⟩ (.int .i64 at_)).setCell ⟨(p4 + 1 + 1), 5, none⟩ (.bool sn)).setCell ⟨(p4 + 1 + 1), 6, none⟩ (.int .i64 dg)) = wf at b6 n6 ⊢
   clear b0 n0 b1 n1 b2 n2 b3 n3 b4 n4 b5 n5
   refine bodyPost_ret (results_ct rfl _ _ (p4 + 1 + 1) TL #[(.int .i64 s), (.slice A q.length cc), (.bool lat), (.int .i64 tok), (.int .i64 at_), (.bool sn), (.int .i64 dg)] (0, 0) _ rfl b6 Try.underlying30 rfl (by kernel_rfl)) rfl ?_
   exact ⟨rfl, n6⟩
  | true =>
   obtain rfl : b3 = false := by simpa using hb
   go_wp2_with fail
   refine (H3.out w3).mono ?_
   rintro e w4 ⟨rfl, hd⟩
   have hb2 := hd.below
   clear hd
   replace hB1 := below_step hB1 hb2
   replace T4 := blk_below T4 hb2
   replace T5 := blk_below T5 hb2
   replace T8 := blk_below T8 hb2
   clear hb2 
   have l0_ := (blk_cell T5 0).trans rfl
   have l1_ := (blk_cell T5 1).trans rfl
   have l2_ := (blk_cell T5 2).trans rfl
   have l3_ := (blk_cell T5 3).trans rfl
   have l4_ := (blk_cell T5 4).trans rfl
   have l5_ := (blk_cell T5 5).trans rfl
   have l6_ := (blk_cell T5 6).trans rfl
   have k0 := (blk_cell T8 0).trans rfl
   have z0 := blk_frozen T8 0
   have k1 := (blk_cell T8 1).trans rfl
   have z1 := blk_frozen T8 1
   have k2 := (blk_cell T8 2).trans rfl
   have z2 := blk_frozen T8 2
   have k3 := (blk_cell T8 3).trans rfl
   have z3 := blk_frozen T8 3
   have k4 := (blk_cell T8 4).trans rfl
   have z4 := blk_frozen T8 4
   have k5 := (blk_cell T8 5).trans rfl
   have z5 := blk_frozen T8 5
   have k6 := (blk_cell T8 6).trans rfl
   have z6 := blk_frozen T8 6
   go_wp2
   have b0 : (w4.setCell ⟨(p4 + 1 + 1), 0, none⟩ (.int .i64 s)).heap[(p4 + 1 + 1)]? = some (.cells #[(.int .i64 s), (.slice none 0 0), (.bool false), (.int .i64 0), (.int .i64 0), (.bool false), (.int .i64 0)] TL (0, 0)) := blk_set T8 0 _
   have n0 := below_set (j := 0) (v := (.int .i64 s)) hB1 (g := (p4 + 1 + 1)) hg8
   have b1 : ((w4.setCell ⟨(p4 + 1 + 1), 0, none⟩ (.int .i64 s)).setCell ⟨(p4 + 1 + 1), 1, none⟩ (.slice A q.length cc)).heap[(p4 + 1 + 1)]? = some (.cells #[(.int .i64 s), (.slice A q.length cc), (.bool false), (.int .i64 0), (.int .i64 0), (.bool false), (.int .i64 0)] TL (0, 0)) := blk_set b0 1 _
   have n1 := below_set (j := 1) (v := (.slice A q.length cc)) n0 (g := (p4 + 1 + 1)) hg8
   have b2 : (((w4.setCell ⟨(p4 + 1 + 1), 0, none⟩ (.int .i64 s)).setCell ⟨(p4 + 1 + 1), 1, none⟩ (.slice A q.length cc)).setCell ⟨(p4 + 1 + 1), 2, none⟩ (.bool lat)).heap[(p4 + 1 + 1)]? = some (.cells #[(.int .i64 s), (.slice A q.length cc), (.bool lat), (.int .i64 0), (.int .i64 0), (.bool false), (.int .i64 0)] TL (0, 0)) := blk_set b1 2 _
   have n2 := below_set (j := 2) (v := (.bool lat)) n1 (g := (p4 + 1 + 1)) hg8
   have b3 : ((((w4.setCell ⟨(p4 + 1 + 1), 0, none⟩ (.int .i64 s)).setCell ⟨(p4 + 1 + 1), 1, none⟩ (.slice A q.length cc)).setCell ⟨(p4 + 1 + 1), 2, none⟩ (.bool lat)).setCell ⟨(p4 + 1 + 1), 3, none⟩ (.int .i64 tok)).heap[(p4 + 1 + 1)]? = some (.cells #[(.int .i64 s), (.slice A q.length cc), (.bool lat), (.int .i64 tok), (.int .i64 0), (.bool false), (.int .i64 0)] TL (0, 0)) := blk_set b2 3 _
   have n3 := below_set (j := 3) (v := (.int .i64 tok)) n2 (g := (p4 + 1 + 1)) hg8
   have b4 : (((((w4.setCell ⟨(p4 + 1 + 1), 0, none⟩ (.int .i64 s)).setCell ⟨(p4 + 1 + 1), 1, none⟩ (.slice A q.length cc)).setCell ⟨(p4 + 1 + 1), 2, none⟩ (.bool lat)).setCell ⟨(p4 + 1 + 1), 3, none⟩ (.int .i64 tok)).setCell ⟨(p4 + 1 + 1), 4, none⟩ (.int .i64 at_)).heap[(p4 + 1 + 1)]? = some (.cells #[(.int .i64 s), (.slice A q.length cc), (.bool lat), (.int .i64 tok), (.int .i64 at_), (.bool false), (.int .i64 0)] TL (0, 0)) := blk_set b3 4 _
   have n4 := below_set (j := 4) (v := (.int .i64 at_)) n3 (g := (p4 + 1 + 1)) hg8
   have b5 : ((((((w4.setCell ⟨(p4 + 1 + 1), 0, none⟩ (.int .i64 s)).setCell ⟨(p4 + 1 + 1), 1, none⟩ (.slice A q.length cc)).setCell ⟨(p4 + 1 + 1), 2, none⟩ (.bool lat)).setCell ⟨(p4 + 1 + 1), 3, none⟩ (.int .i64 tok)).setCell ⟨(p4 + 1 + 1), 4, none⟩ (.int .i64 at_)).setCell ⟨(p4 + 1 + 1), 5, none⟩ (.bool sn)).heap[(p4 + 1 + 1)]? = some (.cells #[(.int .i64 s), (.slice A q.length cc), (.bool lat), (.int .i64 tok), (.int .i64 at_), (.bool sn), (.int .i64 0)] TL (0, 0)) := blk_set b4 5 _
   have n5 := below_set (j := 5) (v := (.bool sn)) n4 (g := (p4 + 1 + 1)) hg8
   have b6 : (((((((w4.setCell ⟨(p4 + 1 + 1), 0, none⟩ (.int .i64 s)).setCell ⟨(p4 + 1 + 1), 1, none⟩ (.slice A q.length cc)).setCell ⟨(p4 + 1 + 1), 2, none⟩ (.bool lat)).setCell ⟨(p4 + 1 + 1), 3, none⟩ (.int .i64 tok)).setCell ⟨(p4 + 1 + 1), 4, none⟩ (.int .i64 at_)).setCell ⟨(p4 + 1 + 1), 5, none⟩ (.bool sn)).setCell ⟨(p4 + 1 + 1), 6, none⟩ (.int .i64 dg)).heap[(p4 + 1 + 1)]? = some (.cells #[(.int .i64 s), (.slice A q.length cc), (.bool lat), (.int .i64 tok), (.int .i64 at_), (.bool sn), (.int .i64 dg)] TL (0, 0)) := blk_set b5 6 _
   have n6 := below_set (j := 6) (v := (.int .i64 dg)) n5 (g := (p4 + 1 + 1)) hg8
   generalize hwf : (((((((w4.setCell ⟨(p4 + 1 + 1), 0, none⟩ (.int .i64 s)).setCell ⟨(p4 + 1 + 1), 1, none⟩ (.slice A q.length cc)).setCell ⟨(p4 + 1 + 1), 2, none⟩ (.bool lat)).setCell ⟨(p4 + 1 + 1), 3, none⟩ (.int .i64 tok)).setCell ⟨(p4 + 1 + 1), 4, none⟩ (.int .i64 at_)).setCell ⟨(p4 + 1 + 1), 5, none⟩ (.bool sn)).setCell ⟨(p4 + 1 + 1), 6, none⟩ (.int .i64 dg)) = wf at b6 n6 ⊢
   clear b0 n0 b1 n1 b2 n2 b3 n3 b4 n4 b5 n5
   refine bodyPost_ret (results_ct rfl _ _ (p4 + 1 + 1) TL #[(.int .i64 s), (.slice A q.length cc), (.bool lat), (.int .i64 tok), (.int .i64 at_), (.bool sn), (.int .i64 dg)] (0, 0) _ rfl b6 Try.underlying30 rfl (by kernel_rfl)) rfl ?_
   exact ⟨rfl, n6⟩
theorem info_fr : (Try.prog.info? 60).map (fun i => (i.zero, i.size, i.bytes)) = some (some (.agg #[(.int .i64 0), (.int .i64 0), (.bool false), (.string ⟨#[]⟩), (.int .i64 0), (.int .i64 0), (.int .i64 0), (.string ⟨#[]⟩), (.int .u64 0), (.slice none 0 0)]), kFr.sz, 112) := by kernel_rfl
set_option maxHeartbeats 16000000 in
/-- A link that may be, a view that may be, a tick: what is told is what 'emitP' says. -/
theorem emit_yes (ok : Nat → Prop) (k1 k2 K : Nat) (c0 c1 c2 c3 s : Int) (A : Option Addr) (cc : Nat) (q : List Ch) (tok at_ : Int) (sn : Bool) (dg : Int) (B : Option Addr) (mc : Nat) (t : List Se) (now : Int) (w : World)
  (hqv : Kd.V kCh 0 w 0 ok (.slice A q.length cc) q) (htv : Kd.V kSe 0 w 0 ok (.slice B t.length mc) t)
  (h1 : link_May.f k1 c0 c1 c2 c3 s q false tok at_ sn dg = some true) (h2 : digest_May.f k2 t = some true) (h3 : link_time.f now = some true)
  (hs0 : 0 ≤ s) (hd0 : 0 ≤ dg) (hd1 : dg ≤ 1099511627776) (hn0 : 0 ≤ now) (hn1 : now ≤ 1099511627776) (hl : t.length ≤ 40) (hz : ∀ x ∈ t, x.f0.size ≤ 9223372036854775807) (hK : K ≤ 1000) (R : St) (hR : emitP c0 c1 c2 c3 now t K ⟨s, q, sn, tok, at_, dg, []⟩ = some R) :
  Calls Try.prog 24 #[.agg #[.int .i64 c0, .int .i64 c1, .int .i64 c2, .int .i64 c3], .agg #[.int .i64 s, .slice A q.length cc, .bool false, .int .i64 tok, .int .i64 at_, .bool sn, .int .i64 dg], .slice B t.length mc, .int .i64 now] w
   fun e w' => ∃ (A' : Option Addr) (c' : Nat) (vo : Value), e = .returned (.tuple #[.agg #[.int .i64 R.s, .slice A' R.q.length c', .bool false, .int .i64 R.tok, .int .i64 R.at_, .bool R.sn, .int .i64 R.dg], vo]) ∧ Kd.V kCh 0 w' 0 (fun k => ok k ∨ w.heap.size ≤ k) (.slice A' R.q.length c') R.q ∧ Kd.V kFr 60 w' 0 (fun k => ok k ∨ w.heap.size ≤ k) vo R.fs ∧ Below w.heap.size w w' := by
 have hqC := (Kd.V_at hqv).2
 have htC := (Kd.V_at htv).2
 have H1 := Aside0.mk (fun (w' : World) (hb : Below w.heap.size w w') => link_May.calls k1 c0 c1 c2 c3 s A cc q false tok at_ sn dg true w' (Kd.C_below (Kd.F_now hqC.2) hb) hqC.1 h1)
 have H2 := Aside0.mk (fun (w' : World) (hb : Below w.heap.size w w') => digest_May.calls k2 B mc t true w' (Kd.C_below (Kd.F_now htC.2) hb) htC.1 h2)
 have H3 := Aside0.mk (fun (w' : World) => link_time.calls now true w' h3)
 have HR := Aside0.mk hR
 have HM := Aside0.mk h2
 have HZ := Aside0.mk hz
 have HL := Aside0.mk hl
 have HN := Aside0.mk (And.intro hn0 hn1)
 have HK := Aside0.mk hK
 have HS := Aside0.mk (And.intro hs0 (And.intro hd0 hd1))
 clear hqC htC h1 h2 h3 hR hs0 hd0 hd1 hz hn0 hn1 hl hK
 go_enter Try.func24, Try.ntmps24
 have HB : Below w.heap.size w w := Below.refl _ _
 have hM : Mem w [] := Mem.nil w
 go_upto_region 1 with (fail)
 generalize hg : World.alloc _ _ = w1
 obtain ⟨hB1, hM1, _⟩ := Mem.new3 hg HB hM
 clear HB hM hg
 generalize h4 : w.heap.size = p4 at hM1 ⊢
 have T4 := hM1.get 2 rfl
 have T5 := hM1.get 1 rfl
 have T8 := hM1.get 0 rfl
 have c0_ := hM1.cell 2 0 rfl rfl
 have c1_ := hM1.cell 2 1 rfl rfl
 have c2_ := hM1.cell 2 2 rfl rfl
 have c3_ := hM1.cell 2 3 rfl rfl
 have l0_ := hM1.cell 1 0 rfl rfl
 have l1_ := hM1.cell 1 1 rfl rfl
 have l2_ := hM1.cell 1 2 rfl rfl
 have l3_ := hM1.cell 1 3 rfl rfl
 have l4_ := hM1.cell 1 4 rfl rfl
 have l5_ := hM1.cell 1 5 rfl rfl
 have l6_ := hM1.cell 1 6 rfl rfl
 clear hM1
 go_wp2_with fail
 refine (H1.out w1 hB1).mono ?_
 rintro e w2 ⟨rfl, hb2⟩
 clear H1 c0_ c1_ c2_ c3_ l0_ l1_ l2_ l3_ l4_ l5_ l6_
 replace hB1 := below_step hB1 hb2
 replace T4 := blk_below T4 hb2
 replace T5 := blk_below T5 hb2
 replace T8 := blk_below T8 hb2
 clear hb2 
 go_wp2_with fail
 refine (H2.out w2 hB1).mono ?_
 rintro e w3 ⟨rfl, hb2⟩
 replace hB1 := below_step hB1 hb2
 replace T4 := blk_below T4 hb2
 replace T5 := blk_below T5 hb2
 replace T8 := blk_below T8 hb2
 clear hb2 H2
 go_wp2_with fail
 refine (H3.out w3).mono ?_
 rintro e w4 ⟨rfl, hd⟩
 have hb2 := hd.below
 replace hB1 := below_step hB1 hb2
 replace T4 := blk_below T4 hb2
 replace T5 := blk_below T5 hb2
 replace T8 := blk_below T8 hb2
 clear hb2 hd H3
 have c0_ := (blk_cell T4 0).trans rfl
 have c1_ := (blk_cell T4 1).trans rfl
 have c2_ := (blk_cell T4 2).trans rfl
 have c3_ := (blk_cell T4 3).trans rfl
 have l0_ := (blk_cell T5 0).trans rfl
 have l1_ := (blk_cell T5 1).trans rfl
 have l2_ := (blk_cell T5 2).trans rfl
 have l3_ := (blk_cell T5 3).trans rfl
 have l4_ := (blk_cell T5 4).trans rfl
 have l5_ := (blk_cell T5 5).trans rfl
 have l6_ := (blk_cell T5 6).trans rfl
 have hp8 : w.heap.size ≤ p4 + 1 + 1 ∧ p4 + 1 + 1 < w4.heap.size := ⟨by omega, blk_lt T8⟩
 go_wp2
 generalize hg : World.alloc _ _ = w5
 have hb5 := al_below hg
 have tp := al_new hg
 have T4' := blk_below T4 hb5
 have T8' := blk_below T8 hb5
 have hVq : Kd.V kCh 34 w5 0 (fun k => ok k ∧ k < w.heap.size) (.slice A q.length cc) q := Kd.V_mono (e := 0) (base := 0) (Kd.V_below (e := 0) (base := 0) (Kd.V_bound hqv) (below_step hB1 hb5)) (fun k hk => hk)
 have hVt : Kd.V kSe 72 w5 0 (fun k => ok k ∧ k < w.heap.size) (.slice B t.length mc) t := Kd.V_mono (e := 0) (base := 0) (Kd.V_below (e := 0) (base := 0) (Kd.V_bound htv) (below_step hB1 hb5)) (fun k hk => hk)
 have hwp : w.heap.size ≤ w4.heap.size := hB1.size
 clear hg T4 T5 T8 hqv htv c0_ c1_ c2_ c3_ l0_ l1_ l2_ l3_ l4_ l5_ l6_
 obtain ⟨pt, hpt⟩ : ∃ x, x = w4.heap.size := ⟨_, rfl⟩
 rw [← hpt] at tp
 rw [← hpt]
 obtain ⟨p8, hp8e⟩ : ∃ x, x = p4 + 1 + 1 := ⟨_, rfl⟩
 rw [← hp8e] at T8'
 rw [← hp8e]
 replace hVq : Kd.V kCh 34 w5 0 (fun k => (k ≠ pt ∧ k ≠ p8 ∧ (ok k ∨ w.heap.size ≤ k)) ∧ some k ≠ (.slice none 0 0 : Value).ownBlock) (.slice A q.length cc) q := Kd.V_mono hVq (fun k hk => ⟨⟨by have := hk.2; omega, by have := hk.2; omega, .inl hk.1⟩, by simp [Value.ownBlock]⟩)
 replace hVt : Kd.V kSe 72 w5 0 (fun k => (k ≠ pt ∧ k ≠ p8 ∧ (ok k ∨ w.heap.size ≤ k)) ∧ some k ≠ (.slice none 0 0 : Value).ownBlock) (.slice B t.length mc) t := Kd.V_mono hVt (fun k hk => ⟨⟨by have := hk.2; omega, by have := hk.2; omega, .inl hk.1⟩, by simp [Value.ownBlock]⟩)
 have hNe : Kd.N kFr 60 w5 pt (fun k => k ≠ pt ∧ k ≠ p8 ∧ (ok k ∨ w.heap.size ≤ k)) (.slice none 0 0) [] := Kd.N_nil _ _ _ _ _
 have F1 := Aside0.mk (show pt ≠ p8 ∧ p4 ≠ pt ∧ p4 ≠ p8 ∧ w.heap.size ≤ p8 ∧ p8 < pt ∧ p4 < pt ∧ w4.heap.size = pt ∧ w.heap.size ≤ w4.heap.size by omega)
 have F2 := Aside0.mk hB1
 clear hp8 hp8e hpt hwp h4 hB1
 have HA := Aside0.mk (And.intro tp (And.intro T4' (And.intro T8' (And.intro hVq (And.intro hVt (And.intro hNe hb5))))))
 clear tp T4' T8' hVq hVt hNe hb5
 go_loopg [10] K (fun g out wr => ∃ (st : St) (A' : Option Addr) (c' : Nat), Aside0 (emitP c0 c1 c2 c3 now t g st = some R) ∧ Aside0 (0 ≤ st.s ∧ 0 ≤ st.dg ∧ st.dg ≤ 1099511627776 ∧ st.fs.length + g ≤ K) ∧ Aside0 (wr.heap[pt]? = some (.cells (tc st.s (.slice A' st.q.length c') false st.tok st.at_ st.sn st.dg c0 c1 c2 c3 (.slice B t.length mc) now) TT (0, 0)) ∧ wr.heap[p4]? = some (.cells #[.int .i64 c0, .int .i64 c1, .int .i64 c2, .int .i64 c3] 23 (0, 0)) ∧ wr.heap[p8]? = some (.cells #[(.int .i64 0), (.slice none 0 0), (.bool false), (.int .i64 0), (.int .i64 0), (.bool false), (.int .i64 0)] TL (0, 0)) ∧ Kd.V kCh 34 wr 0 (fun k => (k ≠ pt ∧ k ≠ p8 ∧ (ok k ∨ w.heap.size ≤ k)) ∧ some k ≠ (out : Value).ownBlock) (.slice A' st.q.length c') st.q ∧ Kd.V kSe 72 wr 0 (fun k => (k ≠ pt ∧ k ≠ p8 ∧ (ok k ∨ w.heap.size ≤ k)) ∧ some k ≠ (out : Value).ownBlock) (.slice B t.length mc) t ∧ Kd.N kFr 60 wr pt (fun k => k ≠ pt ∧ k ≠ p8 ∧ (ok k ∨ w.heap.size ≤ k)) out st.fs ∧ Below w4.heap.size w4 wr))
 case atStart => exact ⟨⟨s, q, sn, tok, at_, dg, []⟩, A, cc, HR, ⟨⟨HS.out.1, HS.out.2.1, HS.out.2.2, by simp⟩⟩, HA⟩
 case round =>
  obtain ⟨st, A', c', hE, hI, hA⟩ := hrel
  clear HA HR HS
  obtain ⟨tp, T4, T8, hVq, hVt, hNf, hb⟩ := hA.out
  clear hA
  obtain ⟨g, rfl⟩ : ∃ g, gk = g + 1 := by
   cases gk with
   | zero => exact absurd hE.out (by simp [emitP])
   | succ g => exact ⟨g, rfl⟩
  have hE' := hE.out
  rw [emitP] at hE'
  clear hE
  obtain ⟨hs0, hd0, hd1, hfl⟩ := hI.out
  clear hI
  obtain ⟨ss, qq, sq, tq, aq, dq, fq⟩ := st
  dsimp only at hE' tp hVq hNf hs0 hd0 hd1 hfl
  have r0 := (blk_cell tp 0).trans rfl
  by_cases hlt : ss < 1099511627776
  rotate_left
  ·rw [if_neg hlt] at hE'
   obtain rfl := Option.some.inj hE'
   have hlt' : 1099511627776 ≤ ss := by omega
   clear hlt hE'
   clear r0
   skip
   have l0_ := (blk_cell tp 0).trans rfl
   have l1_ := (blk_cell tp 1).trans rfl
   have l2_ := (blk_cell tp 2).trans rfl
   have l3_ := (blk_cell tp 3).trans rfl
   have l4_ := (blk_cell tp 4).trans rfl
   have l5_ := (blk_cell tp 5).trans rfl
   have l6_ := (blk_cell tp 6).trans rfl
   have k0 := (blk_cell T8 0).trans rfl
   have z0 := blk_frozen T8 0
   have k1 := (blk_cell T8 1).trans rfl
   have z1 := blk_frozen T8 1
   have k2 := (blk_cell T8 2).trans rfl
   have z2 := blk_frozen T8 2
   have k3 := (blk_cell T8 3).trans rfl
   have z3 := blk_frozen T8 3
   have k4 := (blk_cell T8 4).trans rfl
   have z4 := blk_frozen T8 4
   have k5 := (blk_cell T8 5).trans rfl
   have z5 := blk_frozen T8 5
   have k6 := (blk_cell T8 6).trans rfl
   have z6 := blk_frozen T8 6
   have hg8 : w.heap.size ≤ p8 := F1.out.2.2.2.1
   have hBw := below_step F2.out hb
   go_wp2
   have b0 : (wr.setCell ⟨p8, 0, none⟩ (.int .i64 ss)).heap[p8]? = some (.cells #[(.int .i64 ss), (.slice none 0 0), (.bool false), (.int .i64 0), (.int .i64 0), (.bool false), (.int .i64 0)] TL (0, 0)) := blk_set T8 0 _
   have n0 := below_set (j := 0) (v := (.int .i64 ss)) hBw (g := p8) hg8
   have hVq0 := Kd.V_far hVq (p := ⟨p8, 0, none⟩) (fun k hk => hk.1.2.1) (.int .i64 ss)
   have hNf0 := Kd.N_far hNf (p := ⟨p8, 0, none⟩) (fun k hk => hk.2.1) (.int .i64 ss)
   have b1 : ((wr.setCell ⟨p8, 0, none⟩ (.int .i64 ss)).setCell ⟨p8, 1, none⟩ (.slice A' qq.length c')).heap[p8]? = some (.cells #[(.int .i64 ss), (.slice A' qq.length c'), (.bool false), (.int .i64 0), (.int .i64 0), (.bool false), (.int .i64 0)] TL (0, 0)) := blk_set b0 1 _
   have n1 := below_set (j := 1) (v := (.slice A' qq.length c')) n0 (g := p8) hg8
   have hVq1 := Kd.V_far hVq0 (p := ⟨p8, 1, none⟩) (fun k hk => hk.1.2.1) (.slice A' qq.length c')
   have hNf1 := Kd.N_far hNf0 (p := ⟨p8, 1, none⟩) (fun k hk => hk.2.1) (.slice A' qq.length c')
   have b2 : (((wr.setCell ⟨p8, 0, none⟩ (.int .i64 ss)).setCell ⟨p8, 1, none⟩ (.slice A' qq.length c')).setCell ⟨p8, 2, none⟩ (.bool false)).heap[p8]? = some (.cells #[(.int .i64 ss), (.slice A' qq.length c'), (.bool false), (.int .i64 0), (.int .i64 0), (.bool false), (.int .i64 0)] TL (0, 0)) := blk_set b1 2 _
   have n2 := below_set (j := 2) (v := (.bool false)) n1 (g := p8) hg8
   have hVq2 := Kd.V_far hVq1 (p := ⟨p8, 2, none⟩) (fun k hk => hk.1.2.1) (.bool false)
   have hNf2 := Kd.N_far hNf1 (p := ⟨p8, 2, none⟩) (fun k hk => hk.2.1) (.bool false)
   have b3 : ((((wr.setCell ⟨p8, 0, none⟩ (.int .i64 ss)).setCell ⟨p8, 1, none⟩ (.slice A' qq.length c')).setCell ⟨p8, 2, none⟩ (.bool false)).setCell ⟨p8, 3, none⟩ (.int .i64 tq)).heap[p8]? = some (.cells #[(.int .i64 ss), (.slice A' qq.length c'), (.bool false), (.int .i64 tq), (.int .i64 0), (.bool false), (.int .i64 0)] TL (0, 0)) := blk_set b2 3 _
   have n3 := below_set (j := 3) (v := (.int .i64 tq)) n2 (g := p8) hg8
   have hVq3 := Kd.V_far hVq2 (p := ⟨p8, 3, none⟩) (fun k hk => hk.1.2.1) (.int .i64 tq)
   have hNf3 := Kd.N_far hNf2 (p := ⟨p8, 3, none⟩) (fun k hk => hk.2.1) (.int .i64 tq)
   have b4 : (((((wr.setCell ⟨p8, 0, none⟩ (.int .i64 ss)).setCell ⟨p8, 1, none⟩ (.slice A' qq.length c')).setCell ⟨p8, 2, none⟩ (.bool false)).setCell ⟨p8, 3, none⟩ (.int .i64 tq)).setCell ⟨p8, 4, none⟩ (.int .i64 aq)).heap[p8]? = some (.cells #[(.int .i64 ss), (.slice A' qq.length c'), (.bool false), (.int .i64 tq), (.int .i64 aq), (.bool false), (.int .i64 0)] TL (0, 0)) := blk_set b3 4 _
   have n4 := below_set (j := 4) (v := (.int .i64 aq)) n3 (g := p8) hg8
   have hVq4 := Kd.V_far hVq3 (p := ⟨p8, 4, none⟩) (fun k hk => hk.1.2.1) (.int .i64 aq)
   have hNf4 := Kd.N_far hNf3 (p := ⟨p8, 4, none⟩) (fun k hk => hk.2.1) (.int .i64 aq)
   have b5 : ((((((wr.setCell ⟨p8, 0, none⟩ (.int .i64 ss)).setCell ⟨p8, 1, none⟩ (.slice A' qq.length c')).setCell ⟨p8, 2, none⟩ (.bool false)).setCell ⟨p8, 3, none⟩ (.int .i64 tq)).setCell ⟨p8, 4, none⟩ (.int .i64 aq)).setCell ⟨p8, 5, none⟩ (.bool sq)).heap[p8]? = some (.cells #[(.int .i64 ss), (.slice A' qq.length c'), (.bool false), (.int .i64 tq), (.int .i64 aq), (.bool sq), (.int .i64 0)] TL (0, 0)) := blk_set b4 5 _
   have n5 := below_set (j := 5) (v := (.bool sq)) n4 (g := p8) hg8
   have hVq5 := Kd.V_far hVq4 (p := ⟨p8, 5, none⟩) (fun k hk => hk.1.2.1) (.bool sq)
   have hNf5 := Kd.N_far hNf4 (p := ⟨p8, 5, none⟩) (fun k hk => hk.2.1) (.bool sq)
   have b6 : (((((((wr.setCell ⟨p8, 0, none⟩ (.int .i64 ss)).setCell ⟨p8, 1, none⟩ (.slice A' qq.length c')).setCell ⟨p8, 2, none⟩ (.bool false)).setCell ⟨p8, 3, none⟩ (.int .i64 tq)).setCell ⟨p8, 4, none⟩ (.int .i64 aq)).setCell ⟨p8, 5, none⟩ (.bool sq)).setCell ⟨p8, 6, none⟩ (.int .i64 dq)).heap[p8]? = some (.cells #[(.int .i64 ss), (.slice A' qq.length c'), (.bool false), (.int .i64 tq), (.int .i64 aq), (.bool sq), (.int .i64 dq)] TL (0, 0)) := blk_set b5 6 _
   have n6 := below_set (j := 6) (v := (.int .i64 dq)) n5 (g := p8) hg8
   have hVq6 := Kd.V_far hVq5 (p := ⟨p8, 6, none⟩) (fun k hk => hk.1.2.1) (.int .i64 dq)
   have hNf6 := Kd.N_far hNf5 (p := ⟨p8, 6, none⟩) (fun k hk => hk.2.1) (.int .i64 dq)
   generalize hwf : (((((((wr.setCell ⟨p8, 0, none⟩ (.int .i64 ss)).setCell ⟨p8, 1, none⟩ (.slice A' qq.length c')).setCell ⟨p8, 2, none⟩ (.bool false)).setCell ⟨p8, 3, none⟩ (.int .i64 tq)).setCell ⟨p8, 4, none⟩ (.int .i64 aq)).setCell ⟨p8, 5, none⟩ (.bool sq)).setCell ⟨p8, 6, none⟩ (.int .i64 dq)) = wf at b6 n6 hVq6 hNf6 ⊢
   clear b0 n0 b1 n1 b2 n2 b3 n3 b4 n4 b5 n5
   refine bodyPost_ret (results_ct rfl _ _ p8 TL #[(.int .i64 ss), (.slice A' qq.length c'), (.bool false), (.int .i64 tq), (.int .i64 aq), (.bool sq), (.int .i64 dq)] (0, 0) _ rfl b6 Try.underlying30 rfl (by kernel_rfl)) rfl ?_
   exact ⟨A', c', _, rfl, Kd.V_mono (e := 0) (base := 0) hVq6 (fun k hk => hk.1.2.2), Kd.N_V (Kd.N_mono hNf6 (fun k hk => hk.2.2)), n6⟩
  rw [if_pos hlt] at hE'
  have c0_ := (blk_cell T4 0).trans rfl
  have c1_ := (blk_cell T4 1).trans rfl
  have c2_ := (blk_cell T4 2).trans rfl
  have c3_ := (blk_cell T4 3).trans rfl
  have r3 := (blk_cell tp 3).trans rfl
  have r4 := (blk_cell tp 4).trans rfl
  have HT := Aside0.mk (fun w => take_calls c0 c1 c2 c3 tq aq now w)
  rcases hT : TK c0 c1 c2 c3 tq aq now with ⟨a1, a2, a3⟩
  rw [hT] at HT hE'
  dsimp only at HT hE'
  clear hT
  have HE := Aside0.mk hE'
  clear hE'
  go_wp2_with fail
  refine (HT.out wr).mono ?_
  rintro e x1 ⟨rfl, hbx⟩
  clear HT r0 r3 r4 c0_ c1_ c2_ c3_
  replace tp := blk_below tp hbx
  replace T4 := blk_below T4 hbx
  replace T8 := blk_below T8 hbx
  replace hVq := Kd.V_below hVq hbx
  replace hVt := Kd.V_below hVt hbx
  replace hNf := Kd.N_below hNf hbx
  replace hb := below_step hb hbx
  clear hbx
  have HLT := Aside0.mk (And.intro (blk_lt tp) (blk_lt T8))
  go_upto_region 7 with (fail)
  generalize hg : World.alloc _ _ = x2
  have hbx := al_below hg
  have T12 := al_new hg
  clear hg
  replace tp := blk_below tp hbx
  replace T4 := blk_below T4 hbx
  replace T8 := blk_below T8 hbx
  replace hVq := Kd.V_below hVq hbx
  replace hVt := Kd.V_below hVt hbx
  replace hNf := Kd.N_below hNf hbx
  replace hb := below_step hb hbx
  clear hbx
  obtain ⟨p12, hp12⟩ : ∃ x, x = x1.heap.size := ⟨_, rfl⟩
  rw [← hp12] at T12
  rw [← hp12]
  have h12p : p12 ≠ pt ∧ p12 ≠ p8 := ⟨by have := HLT.out.1; omega, by have := HLT.out.2; omega⟩
  clear hp12 HLT
  cases a3 with
  | false =>
   have hE' := HE.out
   rw [if_neg (by simp)] at hE'
   obtain rfl := Option.some.inj hE'
   clear HE hE' T12 hlt h12p
   have l0_ := (blk_cell tp 0).trans rfl
   have l1_ := (blk_cell tp 1).trans rfl
   have l2_ := (blk_cell tp 2).trans rfl
   have l3_ := (blk_cell tp 3).trans rfl
   have l4_ := (blk_cell tp 4).trans rfl
   have l5_ := (blk_cell tp 5).trans rfl
   have l6_ := (blk_cell tp 6).trans rfl
   have k0 := (blk_cell T8 0).trans rfl
   have z0 := blk_frozen T8 0
   have k1 := (blk_cell T8 1).trans rfl
   have z1 := blk_frozen T8 1
   have k2 := (blk_cell T8 2).trans rfl
   have z2 := blk_frozen T8 2
   have k3 := (blk_cell T8 3).trans rfl
   have z3 := blk_frozen T8 3
   have k4 := (blk_cell T8 4).trans rfl
   have z4 := blk_frozen T8 4
   have k5 := (blk_cell T8 5).trans rfl
   have z5 := blk_frozen T8 5
   have k6 := (blk_cell T8 6).trans rfl
   have z6 := blk_frozen T8 6
   have hg8 : w.heap.size ≤ p8 := F1.out.2.2.2.1
   have hBw := below_step F2.out hb
   go_wp2
   have b0 : (x2.setCell ⟨p8, 0, none⟩ (.int .i64 ss)).heap[p8]? = some (.cells #[(.int .i64 ss), (.slice none 0 0), (.bool false), (.int .i64 0), (.int .i64 0), (.bool false), (.int .i64 0)] TL (0, 0)) := blk_set T8 0 _
   have n0 := below_set (j := 0) (v := (.int .i64 ss)) hBw (g := p8) hg8
   have hVq0 := Kd.V_far hVq (p := ⟨p8, 0, none⟩) (fun k hk => hk.1.2.1) (.int .i64 ss)
   have hNf0 := Kd.N_far hNf (p := ⟨p8, 0, none⟩) (fun k hk => hk.2.1) (.int .i64 ss)
   have b1 : ((x2.setCell ⟨p8, 0, none⟩ (.int .i64 ss)).setCell ⟨p8, 1, none⟩ (.slice A' qq.length c')).heap[p8]? = some (.cells #[(.int .i64 ss), (.slice A' qq.length c'), (.bool false), (.int .i64 0), (.int .i64 0), (.bool false), (.int .i64 0)] TL (0, 0)) := blk_set b0 1 _
   have n1 := below_set (j := 1) (v := (.slice A' qq.length c')) n0 (g := p8) hg8
   have hVq1 := Kd.V_far hVq0 (p := ⟨p8, 1, none⟩) (fun k hk => hk.1.2.1) (.slice A' qq.length c')
   have hNf1 := Kd.N_far hNf0 (p := ⟨p8, 1, none⟩) (fun k hk => hk.2.1) (.slice A' qq.length c')
   have b2 : (((x2.setCell ⟨p8, 0, none⟩ (.int .i64 ss)).setCell ⟨p8, 1, none⟩ (.slice A' qq.length c')).setCell ⟨p8, 2, none⟩ (.bool false)).heap[p8]? = some (.cells #[(.int .i64 ss), (.slice A' qq.length c'), (.bool false), (.int .i64 0), (.int .i64 0), (.bool false), (.int .i64 0)] TL (0, 0)) := blk_set b1 2 _
   have n2 := below_set (j := 2) (v := (.bool false)) n1 (g := p8) hg8
   have hVq2 := Kd.V_far hVq1 (p := ⟨p8, 2, none⟩) (fun k hk => hk.1.2.1) (.bool false)
   have hNf2 := Kd.N_far hNf1 (p := ⟨p8, 2, none⟩) (fun k hk => hk.2.1) (.bool false)
   have b3 : ((((x2.setCell ⟨p8, 0, none⟩ (.int .i64 ss)).setCell ⟨p8, 1, none⟩ (.slice A' qq.length c')).setCell ⟨p8, 2, none⟩ (.bool false)).setCell ⟨p8, 3, none⟩ (.int .i64 tq)).heap[p8]? = some (.cells #[(.int .i64 ss), (.slice A' qq.length c'), (.bool false), (.int .i64 tq), (.int .i64 0), (.bool false), (.int .i64 0)] TL (0, 0)) := blk_set b2 3 _
   have n3 := below_set (j := 3) (v := (.int .i64 tq)) n2 (g := p8) hg8
   have hVq3 := Kd.V_far hVq2 (p := ⟨p8, 3, none⟩) (fun k hk => hk.1.2.1) (.int .i64 tq)
   have hNf3 := Kd.N_far hNf2 (p := ⟨p8, 3, none⟩) (fun k hk => hk.2.1) (.int .i64 tq)
   have b4 : (((((x2.setCell ⟨p8, 0, none⟩ (.int .i64 ss)).setCell ⟨p8, 1, none⟩ (.slice A' qq.length c')).setCell ⟨p8, 2, none⟩ (.bool false)).setCell ⟨p8, 3, none⟩ (.int .i64 tq)).setCell ⟨p8, 4, none⟩ (.int .i64 aq)).heap[p8]? = some (.cells #[(.int .i64 ss), (.slice A' qq.length c'), (.bool false), (.int .i64 tq), (.int .i64 aq), (.bool false), (.int .i64 0)] TL (0, 0)) := blk_set b3 4 _
   have n4 := below_set (j := 4) (v := (.int .i64 aq)) n3 (g := p8) hg8
   have hVq4 := Kd.V_far hVq3 (p := ⟨p8, 4, none⟩) (fun k hk => hk.1.2.1) (.int .i64 aq)
   have hNf4 := Kd.N_far hNf3 (p := ⟨p8, 4, none⟩) (fun k hk => hk.2.1) (.int .i64 aq)
   have b5 : ((((((x2.setCell ⟨p8, 0, none⟩ (.int .i64 ss)).setCell ⟨p8, 1, none⟩ (.slice A' qq.length c')).setCell ⟨p8, 2, none⟩ (.bool false)).setCell ⟨p8, 3, none⟩ (.int .i64 tq)).setCell ⟨p8, 4, none⟩ (.int .i64 aq)).setCell ⟨p8, 5, none⟩ (.bool sq)).heap[p8]? = some (.cells #[(.int .i64 ss), (.slice A' qq.length c'), (.bool false), (.int .i64 tq), (.int .i64 aq), (.bool sq), (.int .i64 0)] TL (0, 0)) := blk_set b4 5 _
   have n5 := below_set (j := 5) (v := (.bool sq)) n4 (g := p8) hg8
   have hVq5 := Kd.V_far hVq4 (p := ⟨p8, 5, none⟩) (fun k hk => hk.1.2.1) (.bool sq)
   have hNf5 := Kd.N_far hNf4 (p := ⟨p8, 5, none⟩) (fun k hk => hk.2.1) (.bool sq)
   have b6 : (((((((x2.setCell ⟨p8, 0, none⟩ (.int .i64 ss)).setCell ⟨p8, 1, none⟩ (.slice A' qq.length c')).setCell ⟨p8, 2, none⟩ (.bool false)).setCell ⟨p8, 3, none⟩ (.int .i64 tq)).setCell ⟨p8, 4, none⟩ (.int .i64 aq)).setCell ⟨p8, 5, none⟩ (.bool sq)).setCell ⟨p8, 6, none⟩ (.int .i64 dq)).heap[p8]? = some (.cells #[(.int .i64 ss), (.slice A' qq.length c'), (.bool false), (.int .i64 tq), (.int .i64 aq), (.bool sq), (.int .i64 dq)] TL (0, 0)) := blk_set b5 6 _
   have n6 := below_set (j := 6) (v := (.int .i64 dq)) n5 (g := p8) hg8
   have hVq6 := Kd.V_far hVq5 (p := ⟨p8, 6, none⟩) (fun k hk => hk.1.2.1) (.int .i64 dq)
   have hNf6 := Kd.N_far hNf5 (p := ⟨p8, 6, none⟩) (fun k hk => hk.2.1) (.int .i64 dq)
   generalize hwf : (((((((x2.setCell ⟨p8, 0, none⟩ (.int .i64 ss)).setCell ⟨p8, 1, none⟩ (.slice A' qq.length c')).setCell ⟨p8, 2, none⟩ (.bool false)).setCell ⟨p8, 3, none⟩ (.int .i64 tq)).setCell ⟨p8, 4, none⟩ (.int .i64 aq)).setCell ⟨p8, 5, none⟩ (.bool sq)).setCell ⟨p8, 6, none⟩ (.int .i64 dq)) = wf at b6 n6 hVq6 hNf6 ⊢
   clear b0 n0 b1 n1 b2 n2 b3 n3 b4 n4 b5 n5
   refine bodyPost_ret (results_ct rfl _ _ p8 TL #[(.int .i64 ss), (.slice A' qq.length c'), (.bool false), (.int .i64 tq), (.int .i64 aq), (.bool sq), (.int .i64 dq)] (0, 0) _ rfl b6 Try.underlying30 rfl (by kernel_rfl)) rfl ?_
   exact ⟨A', c', _, rfl, Kd.V_mono (e := 0) (base := 0) hVq6 (fun k hk => hk.1.2.2), Kd.N_V (Kd.N_mono hNf6 (fun k hk => hk.2.2)), n6⟩
  | true =>
   have hE' := HE.out
   rw [if_pos rfl] at hE'
   clear HE
   have hz5 := F1.out
   skip
   rcases hnx : nextP c3 now t ⟨ss, qq, sq, tq, aq, dq, fq⟩ with _ | ⟨f, q', sn', dg'⟩
   ·rw [hnx] at hE'
    dsimp only at hE'
    obtain rfl := Option.some.inj hE'
    obtain ⟨rfl, rfl, hdd⟩ := next_no c3 now t ss qq sq tq aq dq fq hnx
    clear hE' hnx
    have HX2 := Aside0.mk (next_none ss A' c' tq aq dq c0 c1 c2 c3 B t.length mc now pt w4 x2 hb (by have := F1.out; omega) hs0 hlt (Kd.V_mono hVq (fun k hk => hk.1.1)) hd0 hd1 HN.out.1 HN.out.2 hdd tp)
    clear hdd hlt hz5
    go_wp2_with fail
    refine HX2.out.mono ?_
    rintro e x3 ⟨rfl, hN⟩
    replace T4 := (hN.keep p4 (blk_lt T4) F1.out.2.1).trans T4
    replace T8 := (hN.keep p8 (blk_lt T8) F1.out.1.symm).trans T8
    replace hVq := Kd.V_step hVq (fun k ho hlt => hN.keep k hlt ho.1.1)
    replace hNf := Kd.N_step hNf (fun k ho hlt => hN.keep k hlt ho.1)
    replace tp := hN.tp
    replace hb := hN.bel
    clear hN HX2 T12 hVt h12p T4
    go_upto_region 9 with (fail)
    generalize hg : World.alloc _ _ = x4
    have hbx := al_below hg
    clear hg
    replace tp := blk_below tp hbx
    replace T8 := blk_below T8 hbx
    replace hVq := Kd.V_below hVq hbx
    replace hNf := Kd.N_below hNf hbx
    replace hb := below_step hb hbx
    clear hbx
    have l0_ := (blk_cell tp 0).trans rfl
    have l1_ := (blk_cell tp 1).trans rfl
    have l2_ := (blk_cell tp 2).trans rfl
    have l3_ := (blk_cell tp 3).trans rfl
    have l4_ := (blk_cell tp 4).trans rfl
    have l5_ := (blk_cell tp 5).trans rfl
    have l6_ := (blk_cell tp 6).trans rfl
    have k0 := (blk_cell T8 0).trans rfl
    have z0 := blk_frozen T8 0
    have k1 := (blk_cell T8 1).trans rfl
    have z1 := blk_frozen T8 1
    have k2 := (blk_cell T8 2).trans rfl
    have z2 := blk_frozen T8 2
    have k3 := (blk_cell T8 3).trans rfl
    have z3 := blk_frozen T8 3
    have k4 := (blk_cell T8 4).trans rfl
    have z4 := blk_frozen T8 4
    have k5 := (blk_cell T8 5).trans rfl
    have z5 := blk_frozen T8 5
    have k6 := (blk_cell T8 6).trans rfl
    have z6 := blk_frozen T8 6
    have hg8 : w.heap.size ≤ p8 := F1.out.2.2.2.1
    have hBw := below_step F2.out hb
    go_wp2
    have b0 : (x4.setCell ⟨p8, 0, none⟩ (.int .i64 ss)).heap[p8]? = some (.cells #[(.int .i64 ss), (.slice none 0 0), (.bool false), (.int .i64 0), (.int .i64 0), (.bool false), (.int .i64 0)] TL (0, 0)) := blk_set T8 0 _
    have n0 := below_set (j := 0) (v := (.int .i64 ss)) hBw (g := p8) hg8
    have hVq0 := Kd.V_far hVq (p := ⟨p8, 0, none⟩) (fun k hk => hk.1.2.1) (.int .i64 ss)
    have hNf0 := Kd.N_far hNf (p := ⟨p8, 0, none⟩) (fun k hk => hk.2.1) (.int .i64 ss)
    have b1 : ((x4.setCell ⟨p8, 0, none⟩ (.int .i64 ss)).setCell ⟨p8, 1, none⟩ (.slice A' ([] : List Ch).length c')).heap[p8]? = some (.cells #[(.int .i64 ss), (.slice A' ([] : List Ch).length c'), (.bool false), (.int .i64 0), (.int .i64 0), (.bool false), (.int .i64 0)] TL (0, 0)) := blk_set b0 1 _
    have n1 := below_set (j := 1) (v := (.slice A' ([] : List Ch).length c')) n0 (g := p8) hg8
    have hVq1 := Kd.V_far hVq0 (p := ⟨p8, 1, none⟩) (fun k hk => hk.1.2.1) (.slice A' ([] : List Ch).length c')
    have hNf1 := Kd.N_far hNf0 (p := ⟨p8, 1, none⟩) (fun k hk => hk.2.1) (.slice A' ([] : List Ch).length c')
    have b2 : (((x4.setCell ⟨p8, 0, none⟩ (.int .i64 ss)).setCell ⟨p8, 1, none⟩ (.slice A' ([] : List Ch).length c')).setCell ⟨p8, 2, none⟩ (.bool false)).heap[p8]? = some (.cells #[(.int .i64 ss), (.slice A' ([] : List Ch).length c'), (.bool false), (.int .i64 0), (.int .i64 0), (.bool false), (.int .i64 0)] TL (0, 0)) := blk_set b1 2 _
    have n2 := below_set (j := 2) (v := (.bool false)) n1 (g := p8) hg8
    have hVq2 := Kd.V_far hVq1 (p := ⟨p8, 2, none⟩) (fun k hk => hk.1.2.1) (.bool false)
    have hNf2 := Kd.N_far hNf1 (p := ⟨p8, 2, none⟩) (fun k hk => hk.2.1) (.bool false)
    have b3 : ((((x4.setCell ⟨p8, 0, none⟩ (.int .i64 ss)).setCell ⟨p8, 1, none⟩ (.slice A' ([] : List Ch).length c')).setCell ⟨p8, 2, none⟩ (.bool false)).setCell ⟨p8, 3, none⟩ (.int .i64 tq)).heap[p8]? = some (.cells #[(.int .i64 ss), (.slice A' ([] : List Ch).length c'), (.bool false), (.int .i64 tq), (.int .i64 0), (.bool false), (.int .i64 0)] TL (0, 0)) := blk_set b2 3 _
    have n3 := below_set (j := 3) (v := (.int .i64 tq)) n2 (g := p8) hg8
    have hVq3 := Kd.V_far hVq2 (p := ⟨p8, 3, none⟩) (fun k hk => hk.1.2.1) (.int .i64 tq)
    have hNf3 := Kd.N_far hNf2 (p := ⟨p8, 3, none⟩) (fun k hk => hk.2.1) (.int .i64 tq)
    have b4 : (((((x4.setCell ⟨p8, 0, none⟩ (.int .i64 ss)).setCell ⟨p8, 1, none⟩ (.slice A' ([] : List Ch).length c')).setCell ⟨p8, 2, none⟩ (.bool false)).setCell ⟨p8, 3, none⟩ (.int .i64 tq)).setCell ⟨p8, 4, none⟩ (.int .i64 aq)).heap[p8]? = some (.cells #[(.int .i64 ss), (.slice A' ([] : List Ch).length c'), (.bool false), (.int .i64 tq), (.int .i64 aq), (.bool false), (.int .i64 0)] TL (0, 0)) := blk_set b3 4 _
    have n4 := below_set (j := 4) (v := (.int .i64 aq)) n3 (g := p8) hg8
    have hVq4 := Kd.V_far hVq3 (p := ⟨p8, 4, none⟩) (fun k hk => hk.1.2.1) (.int .i64 aq)
    have hNf4 := Kd.N_far hNf3 (p := ⟨p8, 4, none⟩) (fun k hk => hk.2.1) (.int .i64 aq)
    have b5 : ((((((x4.setCell ⟨p8, 0, none⟩ (.int .i64 ss)).setCell ⟨p8, 1, none⟩ (.slice A' ([] : List Ch).length c')).setCell ⟨p8, 2, none⟩ (.bool false)).setCell ⟨p8, 3, none⟩ (.int .i64 tq)).setCell ⟨p8, 4, none⟩ (.int .i64 aq)).setCell ⟨p8, 5, none⟩ (.bool false)).heap[p8]? = some (.cells #[(.int .i64 ss), (.slice A' ([] : List Ch).length c'), (.bool false), (.int .i64 tq), (.int .i64 aq), (.bool false), (.int .i64 0)] TL (0, 0)) := blk_set b4 5 _
    have n5 := below_set (j := 5) (v := (.bool false)) n4 (g := p8) hg8
    have hVq5 := Kd.V_far hVq4 (p := ⟨p8, 5, none⟩) (fun k hk => hk.1.2.1) (.bool false)
    have hNf5 := Kd.N_far hNf4 (p := ⟨p8, 5, none⟩) (fun k hk => hk.2.1) (.bool false)
    have b6 : (((((((x4.setCell ⟨p8, 0, none⟩ (.int .i64 ss)).setCell ⟨p8, 1, none⟩ (.slice A' ([] : List Ch).length c')).setCell ⟨p8, 2, none⟩ (.bool false)).setCell ⟨p8, 3, none⟩ (.int .i64 tq)).setCell ⟨p8, 4, none⟩ (.int .i64 aq)).setCell ⟨p8, 5, none⟩ (.bool false)).setCell ⟨p8, 6, none⟩ (.int .i64 dq)).heap[p8]? = some (.cells #[(.int .i64 ss), (.slice A' ([] : List Ch).length c'), (.bool false), (.int .i64 tq), (.int .i64 aq), (.bool false), (.int .i64 dq)] TL (0, 0)) := blk_set b5 6 _
    have n6 := below_set (j := 6) (v := (.int .i64 dq)) n5 (g := p8) hg8
    have hVq6 := Kd.V_far hVq5 (p := ⟨p8, 6, none⟩) (fun k hk => hk.1.2.1) (.int .i64 dq)
    have hNf6 := Kd.N_far hNf5 (p := ⟨p8, 6, none⟩) (fun k hk => hk.2.1) (.int .i64 dq)
    generalize hwf : (((((((x4.setCell ⟨p8, 0, none⟩ (.int .i64 ss)).setCell ⟨p8, 1, none⟩ (.slice A' ([] : List Ch).length c')).setCell ⟨p8, 2, none⟩ (.bool false)).setCell ⟨p8, 3, none⟩ (.int .i64 tq)).setCell ⟨p8, 4, none⟩ (.int .i64 aq)).setCell ⟨p8, 5, none⟩ (.bool false)).setCell ⟨p8, 6, none⟩ (.int .i64 dq)) = wf at b6 n6 hVq6 hNf6 ⊢
    clear b0 n0 b1 n1 b2 n2 b3 n3 b4 n4 b5 n5
    refine bodyPost_ret (results_ct rfl _ _ p8 TL #[(.int .i64 ss), (.slice A' ([] : List Ch).length c'), (.bool false), (.int .i64 tq), (.int .i64 aq), (.bool false), (.int .i64 dq)] (0, 0) _ rfl b6 Try.underlying30 rfl (by kernel_rfl)) rfl ?_
    exact ⟨A', c', _, rfl, Kd.V_mono (e := 0) (base := 0) hVq6 (fun k hk => hk.1.2.2), Kd.N_V (Kd.N_mono hNf6 (fun k hk => hk.2.2)), n6⟩
   ·rw [hnx] at hE'
    dsimp only at hE'
    have HE := Aside0.mk hE'
    clear hE'
    have hNlt := Kd.N_lt hNf
    have HX2 := Aside0.mk (next_some c0 c1 c2 c3 now t ss qq sq tq aq dq fq f q' sn' dg' hnx A' c' B mc pt w4 x2 hb (by have := F1.out; omega) hs0 hlt hd0 hd1 HN.out.1 HN.out.2 k2 HL.out HM.out HZ.out (fun k => (k ≠ pt ∧ k ≠ p8 ∧ (ok k ∨ w.heap.size ≤ k)) ∧ some k ≠ (u10 : Value).ownBlock) (fun k hk => hk.1.1) (fun k hk => ⟨⟨by have := blk_lt tp; omega, by have := blk_lt T8; omega, .inr (by have := F1.out; have := hb.size; omega)⟩, fun e => by have := hNlt k e.symm; omega⟩) hVq hVt tp)
    have hdg : 0 ≤ dg' ∧ dg' ≤ 1099511627776 := next_dg hnx hd0 hd1 HN.out.1 HN.out.2
    clear hnx hz5 hNlt
    go_wp2_with fail
    refine HX2.out.mono ?_
    rintro e x3 ⟨A2, c2', A3, n3, c3', rfl, hN, hVq2, hFK⟩
    replace T4 := (hN.keep p4 (blk_lt T4) F1.out.2.1).trans T4
    replace T8 := (hN.keep p8 (blk_lt T8) F1.out.1.symm).trans T8
    replace T12 := (hN.keep p12 (blk_lt T12) h12p.1).trans T12
    replace hVt := Kd.V_step hVt (fun k ho hlt => hN.keep k hlt ho.1.1)
    replace hNf := Kd.N_step hNf (fun k ho hlt => hN.keep k hlt ho.1)
    replace tp := hN.tp
    replace hb := hN.bel
    clear hN HX2 hVq
    have hVq := hVq2
    clear hVq2
    have hltp := blk_lt tp
    go_upto_region 9 with (fail)
    generalize hg : World.alloc _ _ = x4
    have hbx := al_below hg
    have T14 := al_new hg
    clear hg
    replace tp := blk_below tp hbx
    replace T4 := blk_below T4 hbx
    replace T8 := blk_below T8 hbx
    replace T12 := blk_below T12 hbx
    replace hVq := Kd.V_below hVq hbx
    replace hVt := Kd.V_below hVt hbx
    replace hNf := Kd.N_below hNf hbx
    replace hb := below_step hb hbx
    clear hbx
    have hlx : pt < x3.heap.size := hltp
    obtain ⟨p14, hp14⟩ : ∃ x, x = x3.heap.size := ⟨_, rfl⟩
    rw [← hp14] at T14 hlx
    rw [← hp14]
    have hpp : p14 ≠ pt := by omega
    clear hp14 hlx hltp
    replace T14 : x4.heap[p14]? = some (.cells #[.int .i64 f.f0, .int .i64 f.f1, .bool f.f2, .string f.f3, .int .i64 f.f4.f0, .int .i64 f.f4.f1, .int .i64 f.f4.f2, .string f.f4.f3, .int .u64 f.f5, .slice A3 n3 c3'] 60 (0, 0)) := T14
    have q0 := (blk_cell T12 0).trans rfl
    have q1 := (blk_cell T12 1).trans rfl
    have r3 := (blk_cell tp 3).trans rfl
    have z3 := blk_frozen tp 3
    have r4 := (blk_cell tp 4).trans rfl
    have z4 := blk_frozen tp 4
    go_upto_region 11 with (fail)
    clear q0 q1 r3 r4 z3 z4 T12
    have tp3 : (x4.setCell ⟨pt, 3, none⟩ (.int .i64 a1)).heap[pt]? = some (.cells (tc (ss + 1) (.slice A2 q'.length c2') false a1 aq sn' dg' c0 c1 c2 c3 (.slice B t.length mc) now) TT (0, 0)) := blk_set tp 3 _
    have tp4 : ((x4.setCell ⟨pt, 3, none⟩ (.int .i64 a1)).setCell ⟨pt, 4, none⟩ (.int .i64 a2)).heap[pt]? = some (.cells (tc (ss + 1) (.slice A2 q'.length c2') false a1 a2 sn' dg' c0 c1 c2 c3 (.slice B t.length mc) now) TT (0, 0)) := blk_set tp3 4 _
    have T4' := blk_far (blk_far T4 (p := ⟨pt, 3, none⟩) F1.out.2.1 (.int .i64 a1)) (p := ⟨pt, 4, none⟩) F1.out.2.1 (.int .i64 a2)
    have T8' := blk_far (blk_far T8 (p := ⟨pt, 3, none⟩) F1.out.1.symm (.int .i64 a1)) (p := ⟨pt, 4, none⟩) F1.out.1.symm (.int .i64 a2)
    have T14' := blk_far (blk_far T14 (p := ⟨pt, 3, none⟩) hpp (.int .i64 a1)) (p := ⟨pt, 4, none⟩) hpp (.int .i64 a2)
    have hVq' := Kd.V_far (Kd.V_far hVq (p := ⟨pt, 3, none⟩) (fun k hk => hk.1.1) (.int .i64 a1)) (p := ⟨pt, 4, none⟩) (fun k hk => hk.1.1) (.int .i64 a2)
    have hVt' := Kd.V_far (Kd.V_far hVt (p := ⟨pt, 3, none⟩) (fun k hk => hk.1.1) (.int .i64 a1)) (p := ⟨pt, 4, none⟩) (fun k hk => hk.1.1) (.int .i64 a2)
    have hNf' := Kd.N_far (Kd.N_far hNf (p := ⟨pt, 3, none⟩) (fun k hk => hk.1) (.int .i64 a1)) (p := ⟨pt, 4, none⟩) (fun k hk => hk.1) (.int .i64 a2)
    have hge : w4.heap.size ≤ pt := by have := F1.out; omega
    have hb' := below_set (below_set hb (g := pt) (j := 3) (v := (.int .i64 a1)) hge) (g := pt) (j := 4) (v := (.int .i64 a2)) hge
    generalize hw : ((x4.setCell ⟨pt, 3, none⟩ (.int .i64 a1)).setCell ⟨pt, 4, none⟩ (.int .i64 a2)) = x5 at tp4 T4' T8' T14' hVq' hVt' hNf' hb' ⊢
    clear hw tp tp3 T4 T8 T14 hVq hVt hNf hb hge hpp
    have q0 : x5.cell? ⟨p14, 0, none⟩ = some (.int .i64 f.f0) := (blk_cell T14' 0).trans rfl
    have q1 : x5.cell? ⟨p14, 1, none⟩ = some (.int .i64 f.f1) := (blk_cell T14' 1).trans rfl
    have q2 : x5.cell? ⟨p14, 2, none⟩ = some (.bool f.f2) := (blk_cell T14' 2).trans rfl
    have q3 : x5.cell? ⟨p14, 3, none⟩ = some (.string f.f3) := (blk_cell T14' 3).trans rfl
    have q4 : x5.cell? ⟨p14, 4, none⟩ = some (.int .i64 f.f4.f0) := (blk_cell T14' 4).trans rfl
    have q5 : x5.cell? ⟨p14, 5, none⟩ = some (.int .i64 f.f4.f1) := (blk_cell T14' 5).trans rfl
    have q6 : x5.cell? ⟨p14, 6, none⟩ = some (.int .i64 f.f4.f2) := (blk_cell T14' 6).trans rfl
    have q7 : x5.cell? ⟨p14, 7, none⟩ = some (.string f.f4.f3) := (blk_cell T14' 7).trans rfl
    have q8 : x5.cell? ⟨p14, 8, none⟩ = some (.int .u64 f.f5) := (blk_cell T14' 8).trans rfl
    have q9 : x5.cell? ⟨p14, 9, none⟩ = some (.slice A3 n3 c3') := (blk_cell T14' 9).trans rfl
    have hbp : Below pt w4 x5 := by have e := F1.out.2.2.2.2.2.2.1; rw [e] at hb'; exact hb'
    have HP := Aside0.mk (hFK x5 hVt')
    have HM5 := Aside0.mk (And.intro tp4 (And.intro T4' (And.intro T8' (And.intro hVq' (And.intro hVt' (And.intro hNf' hbp))))))
    have HX := Aside0.mk (And.intro hs0 (And.intro hdg hfl))
    clear tp4 T4' T8' T14' hVq' hVt' hNf' hbp hb' hFK hs0 hd0 hd1 hdg hfl hlt h12p
    go_wp2_with ((with_reducible refine gate_builtin (b := .append) (xs := #[.tmp 60, .tmp 62]) rfl ?_); (try (refine gate_guard (by rfl) ?_; dsimp only)); at_builtin; refine Kd.N_append kFr (w0 := w4) pt rfl (.tmp 60) (.tmp 62) 50 60 (.agg #[(.int .i64 0), (.int .i64 0), (.bool false), (.string ⟨#[]⟩), (.int .i64 0), (.int .i64 0), (.int .i64 0), (.string ⟨#[]⟩), (.int .u64 0), (.slice none 0 0)]) 112 rfl Try.underlying50 info_fr rfl (by decide) (by omega) u10 fq f [.int .i64 f.f0, .int .i64 f.f1, .bool f.f2, .string f.f3, .int .i64 f.f4.f0, .int .i64 f.f4.f1, .int .i64 f.f4.f2, .string f.f4.f3, .int .u64 f.f5, .slice A3 n3 c3'] (fun k => k ≠ pt ∧ k ≠ p8 ∧ (ok k ∨ w.heap.size ≤ k)) (fun k => (k ≠ pt ∧ k ≠ p8 ∧ (ok k ∨ w.heap.size ≤ k)) ∧ some k ≠ (u10 : Value).ownBlock) rfl rfl HP.out (fun _ hk => hk) ?aF HM5.out.2.2.2.2.2.1 HM5.out.2.2.2.2.2.2 ?aS ?aL ?_; (case aF => exact (fun k hk => ⟨by have := blk_lt HM5.out.1; omega, by have := blk_lt HM5.out.2.2.1; omega, .inr (by have := F1.out; have := blk_lt HM5.out.1; omega)⟩)); (case aS => exact Nat.le_of_lt (blk_lt HM5.out.1)); (case aL => have := HX.out.2.2; have := HK.out; omega); intro v1 y1 ho hb hg hat)
    obtain ⟨tp, T4, T8, hVq, hVt, hNf, _⟩ := HM5.out
    replace hVq := Kd.V_afterv (ok := (fun k => k ≠ pt ∧ k ≠ p8 ∧ (ok k ∨ w.heap.size ≤ k))) hVq hg hat
    replace hVt := Kd.V_afterv (ok := (fun k => k ≠ pt ∧ k ≠ p8 ∧ (ok k ∨ w.heap.size ≤ k))) hVt hg hat
    replace tp := blk_grown tp hg (Kd.N_away hNf (fun _ hk => hk.1))
    replace T8 := blk_grown T8 hg (Kd.N_away hNf (fun _ hk => hk.2.1))
    replace T4 := blk_grown T4 hg (Kd.N_ne hNf T4 (by decide))
    have hb4 : Below w4.heap.size w4 y1 := by have e := F1.out.2.2.2.2.2.2.1; rw [e]; exact hb
    go_roundg g
    case measure => omega
    case rel => exact ⟨⟨ss + 1, q', sn', a1, a2, dg', fq ++ [f]⟩, A2, c2', HE, ⟨⟨by have := HX.out.1; show 0 ≤ ss + 1; omega, HX.out.2.1.1, HX.out.2.1.2, by have := HX.out.2.2; simp only [List.length_append, List.length_cons, List.length_nil]; omega⟩⟩, ⟨⟨tp, T4, T8, hVq, hVt, ho, hb4⟩⟩⟩
end Go.Proofs.Ytmigglldahkngaa.XTell
end

section
/- Tables in plain lists, where the seat does not reach digest.Set: the words of its text alone. -/
namespace Go.Proofs.Ytmigglldahkngaa.XIns
open Go.RowKit Go.Proofs.Ytmigglldahkngaa.PA
abbrev Sn := S72
def insL (l : List Sn) (i : Nat) (x : Sn) : List Sn := l.take i ++ x :: l.drop i
end Go.Proofs.Ytmigglldahkngaa.XIns
namespace Go.Proofs.Ytmigglldahkngaa.XDel
open Go.RowKit Go.Proofs.Ytmigglldahkngaa.PA Go.Proofs.Ytmigglldahkngaa.XIns
def is (n : ByteArray) (x : Sn) : Bool := x.f0.toList == n.toList
end Go.Proofs.Ytmigglldahkngaa.XDel
namespace Go.Proofs.Ytmigglldahkngaa.XSet
open Go.RowKit Go.Proofs.Ytmigglldahkngaa.PA Go.Proofs.Ytmigglldahkngaa.XIns Go.Proofs.Ytmigglldahkngaa.XDel Go.Proofs.Ytmigglldahkngaa.XLess
def atL (n : ByteArray) : List Sn → Nat → Nat → Nat
 | [], _, a => a
 | x :: t, i, a => atL n t (i + 1) (if lessB x.f0 n = true then i + 1 else a)
end Go.Proofs.Ytmigglldahkngaa.XSet
end

section
-- Written by a program of this session (wip/tools/xprint.py), which drives the kit's print.
namespace Go.Proofs.Ytmigglldahkngaa.PA
open Go.RowKit Go.Proofs.YtmigglldahkngaaW.PrintWords Go.Proofs.YtmigglldahkngaaW.PrintLast Go.Proofs.YtmigglldahkngaaW.PrintMore
attribute [local go_sem] max2_int min2_int max_two min_two   -- for this text's walks alone
set_option linter.unusedVariables false
set_option linter.unusedSimpArgs false

theorem eqA72 (d : Nat) (w : World) (x0 y0 : ByteArray) (x1 y1 : Int) (x2 y2 : Int) (x3 y3 : Int) (x4 y4 : ByteArray) :
  (Op.equalIn (d + 3) 72 (.agg #[.string x0, .int .i64 x1, .int .i64 x2, .int .i64 x3, .string x4]) (.agg #[.string y0, .int .i64 y1, .int .i64 y2, .int .i64 y3, .string y4])).run Try.prog w = .ok (x0.toList == y0.toList && ((x1 == y1 && (x2 == y2 && (x3 == y3 && (x4.toList == y4.toList)))))) w := by
 refine eqA_of Try.underlying72 (by kernel_rfl) ?_
 refine eqf_cons (by rfl) (by go_simp; rfl) (by go_simp; rfl) (by go_simp) ?_
 exact eqf_last (by rfl) (by go_simp) (by go_simp) (eqA32 (d + 0) w _ _ _ _ _ _ _ _)
end Go.Proofs.Ytmigglldahkngaa.PA
end

section
-- Written by a program of this session (wip/tools/xprint.py), which drives the kit's print.
namespace Go.Proofs.Ytmigglldahkngaa.PA
open Go.RowKit Go.Proofs.YtmigglldahkngaaW.PrintWords Go.Proofs.YtmigglldahkngaaW.PrintLast Go.Proofs.YtmigglldahkngaaW.PrintMore Go.Proofs.Ytmigglldahkngaa.XQuiet
attribute [local go_sem] max2_int min2_int max_two min_two   -- for this text's walks alone
set_option linter.unusedVariables false
set_option linter.unusedSimpArgs false

attribute [local go_sem high] eqA32 eqA72
/-! ### rollcallref05_Same: function 34 -/
def rollcallref05_Same.l0 : Nat → List (S72) → List (S72) → Int → Option (Bool)
 | 0, _, _, _ => none
 | k + 1, x0, x1, x5 => if x5 < (x0.length : Int) then (if 0 ≤ x5 then (if x5 < (x1.length : Int) then (if (!((((rd_T72 x0 x5).f0).toList) == (((rd_T72 x1 x5).f0).toList)) || ((!(((rd_T72 x0 x5).f1.f0) == ((rd_T72 x1 x5).f1.f0)) || (!(((rd_T72 x0 x5).f1.f1) == ((rd_T72 x1 x5).f1.f1)) || (!(((rd_T72 x0 x5).f1.f2) == ((rd_T72 x1 x5).f1.f2)) || (!((((rd_T72 x0 x5).f1.f3).toList) == (((rd_T72 x1 x5).f1.f3).toList)))))))) = true then (some false) else (rollcallref05_Same.l0 k x0 x1 (wrap64 (x5 + 1)))) else (none)) else (none)) else (some true)
def rollcallref05_Same.f (k : Nat) (l0 : List (S72)) (l1 : List (S72)) : Option (Bool) := if (l0.length : Int) = (l1.length : Int) then (rollcallref05_Same.l0 k l0 l1 0) else (some false)
set_option maxHeartbeats 8000000 in
set_option maxRecDepth 100000 in
theorem rollcallref05_Same.calls (k : Nat) (A0 : Option Addr) (c0 : Nat) (l0 : List (S72)) (A1 : Option Addr) (c1 : Nat) (l1 : List (S72)) (r : Bool) (w : World) (hr0 : Kd.C k72 w A0 l0.length l0) (hc0 : l0.length ≤ c0) (hr1 : Kd.C k72 w A1 l1.length l1) (hc1 : l1.length ≤ c1) (h : rollcallref05_Same.f k l0 l1 = some r) :
  Calls Try.prog 34 #[.slice A0 l0.length c0, .slice A1 l1.length c1] w fun e w' => e = .returned (.bool r) ∧ Drawn0 w w' := by
 have hu72 := Try.underlying72
 have HR0 := Aside0.mk hr0
 have HC0 := Aside0.mk hc0
 clear hr0 hc0
 have HR1 := Aside0.mk hr1
 have HC1 := Aside0.mk hc1
 clear hr1 hc1
 have H : (if (l0.length : Int) = (l1.length : Int) then (rollcallref05_Same.l0 k l0 l1 0) else (some false)) = some r := h
 clear h
 by_cases c3 : (l0.length : Int) = (l1.length : Int)
 ·rw [if_pos c3] at H
  have c3b0 : ((l0.length : Int) == (l1.length : Int)) = true := beq_iff_eq.mpr c3
  have c3b1 : ((l0.length : Int) != (l1.length : Int)) = false := bne_eq_false_iff_eq.mpr c3
  have c3b2 : (l0.length == l1.length) = true := by first | simpa using c3 | (simp at c3 ⊢; omega)
  clear c3
  have H' := Aside0.mk H
  clear H
  go_enter Try.func34, Try.ntmps34
  go_wp2
  repeat (go_quiet (fail); try go_wp2)
  go_loopg [5] k (fun kq v5 w' => ∃ (x5_1 : Int), v5 = .int .i64 x5_1 ∧ Aside0 (rollcallref05_Same.l0 kq l0 l1 x5_1 = some r) ∧ Aside0 (kq ≤ k) ∧ Drawn0 w w')
  case atStart => exact ⟨(0), (by first | rfl | (simp; done) | (simp [*]; done)), H', ⟨Nat.le_refl _⟩, by repeat (first | exact Drawn0.refl _ | apply Drawn0.step)⟩
  case round =>
   clear H'
   try clear c1
   try clear p2
   try clear c3
   try clear c3b0
   try clear c3b1
   try clear c3b2
   obtain ⟨x5_1, rfl, HA, HK1, ⟨m1, rfl⟩⟩ := hrel
   cases gk with
   | zero => exact absurd HA.out (by simp [rollcallref05_Same.l0])
   | succ k1 =>
    have H := HA.out
    clear HA
    simp only [rollcallref05_Same.l0] at H
    by_cases c4 : x5_1 < (l0.length : Int)
    ·rw [if_pos c4] at H
     have c4b0 : decide (x5_1 < (l0.length : Int)) = true := decide_eq_true c4
     clear c4
     by_cases c5 : 0 ≤ x5_1
     ·rw [if_pos c5] at H
      have c5b0 : decide (0 ≤ x5_1) = true := decide_eq_true c5
      clear c5
      by_cases c6 : x5_1 < (l1.length : Int)
      ·rw [if_pos c6] at H
       have c6b0 : decide (x5_1 < (l1.length : Int)) = true := decide_eq_true c6
       clear c6
       by_cases c7 : (!((((rd_T72 l0 x5_1).f0).toList) == (((rd_T72 l1 x5_1).f0).toList)) || ((!(((rd_T72 l0 x5_1).f1.f0) == ((rd_T72 l1 x5_1).f1.f0)) || (!(((rd_T72 l0 x5_1).f1.f1) == ((rd_T72 l1 x5_1).f1.f1)) || (!(((rd_T72 l0 x5_1).f1.f2) == ((rd_T72 l1 x5_1).f1.f2)) || (!((((rd_T72 l0 x5_1).f1.f3).toList) == (((rd_T72 l1 x5_1).f1.f3).toList)))))))) = true
       ·rw [if_pos c7] at H
        have c7b0 : (!((((rd_T72 l0 x5_1).f0).toList) == (((rd_T72 l1 x5_1).f0).toList)) || ((!(((rd_T72 l0 x5_1).f1.f0) == ((rd_T72 l1 x5_1).f1.f0)) || (!(((rd_T72 l0 x5_1).f1.f1) == ((rd_T72 l1 x5_1).f1.f1)) || (!(((rd_T72 l0 x5_1).f1.f2) == ((rd_T72 l1 x5_1).f1.f2)) || (!((((rd_T72 l0 x5_1).f1.f3).toList) == (((rd_T72 l1 x5_1).f1.f3).toList)))))))) = true := c7
        clear c7
        obtain rfl := Option.some.inj H
        have p400 : 0 ≤ (x5_1 : Int) := of_decide_eq_true (by first | (with_reducible assumption) | assumption)
        have q400 : x5_1 < (l0.length : Int) := of_decide_eq_true (by first | (with_reducible assumption) | assumption)
        obtain ⟨ad400, e400, hx400_0, hx400_1, hx400_2, hx400_3, hx400_4⟩ := at_T72 HR0.out x5_1 p400 q400
        cases e400
        replace p400 := eq_true p400
        replace q400 := eq_true q400
        have p401 : 0 ≤ (x5_1 : Int) := of_decide_eq_true (by first | (with_reducible assumption) | assumption)
        have q401 : x5_1 < (l1.length : Int) := of_decide_eq_true (by first | (with_reducible assumption) | assumption)
        obtain ⟨ad401, e401, hx401_0, hx401_1, hx401_2, hx401_3, hx401_4⟩ := at_T72 HR1.out x5_1 p401 q401
        cases e401
        replace p401 := eq_true p401
        replace q401 := eq_true q401
        go_wp2
        repeat (go_quiet (fail); try go_wp2)
        go_ret
        exact ⟨by first | rfl | (simp; done) | (simp [*]; done), by repeat (first | exact Drawn0.refl _ | apply Drawn0.step)⟩
       ·rw [if_neg c7] at H
        have c7b0 : (!((((rd_T72 l0 x5_1).f0).toList) == (((rd_T72 l1 x5_1).f0).toList)) || ((!(((rd_T72 l0 x5_1).f1.f0) == ((rd_T72 l1 x5_1).f1.f0)) || (!(((rd_T72 l0 x5_1).f1.f1) == ((rd_T72 l1 x5_1).f1.f1)) || (!(((rd_T72 l0 x5_1).f1.f2) == ((rd_T72 l1 x5_1).f1.f2)) || (!((((rd_T72 l0 x5_1).f1.f3).toList) == (((rd_T72 l1 x5_1).f1.f3).toList)))))))) = false := by simpa using c7
        clear c7
        have H' := Aside0.mk H
        clear H
        have p400 : 0 ≤ (x5_1 : Int) := of_decide_eq_true (by first | (with_reducible assumption) | assumption)
        have q400 : x5_1 < (l0.length : Int) := of_decide_eq_true (by first | (with_reducible assumption) | assumption)
        obtain ⟨ad400, e400, hx400_0, hx400_1, hx400_2, hx400_3, hx400_4⟩ := at_T72 HR0.out x5_1 p400 q400
        cases e400
        replace p400 := eq_true p400
        replace q400 := eq_true q400
        have p401 : 0 ≤ (x5_1 : Int) := of_decide_eq_true (by first | (with_reducible assumption) | assumption)
        have q401 : x5_1 < (l1.length : Int) := of_decide_eq_true (by first | (with_reducible assumption) | assumption)
        obtain ⟨ad401, e401, hx401_0, hx401_1, hx401_2, hx401_3, hx401_4⟩ := at_T72 HR1.out x5_1 p401 q401
        cases e401
        replace p401 := eq_true p401
        replace q401 := eq_true q401
        go_wp2
        repeat (go_quiet (fail); try go_wp2)
        go_roundg k1
        case measure => have := HK1.out; omega
        case rel => exact ⟨(wrap64 (x5_1 + 1)), (by first | rfl | (simp; done) | (simp [*]; done)), H', ⟨by have := HK1.out; omega⟩, by repeat (first | exact Drawn0.refl _ | apply Drawn0.step)⟩
      ·rw [if_neg c6] at H
       exact absurd H (by simp)
     ·rw [if_neg c5] at H
      exact absurd H (by simp)
    ·rw [if_neg c4] at H
     have c4b0 : decide (x5_1 < (l0.length : Int)) = false := decide_eq_false c4
     clear c4
     obtain rfl := Option.some.inj H
     go_wp2
     repeat (go_quiet (fail); try go_wp2)
     go_ret
     exact ⟨by first | rfl | (simp; done) | (simp [*]; done), by repeat (first | exact Drawn0.refl _ | apply Drawn0.step)⟩
 ·rw [if_neg c3] at H
  have c3b0 : ((l0.length : Int) == (l1.length : Int)) = false := beq_eq_false_iff_ne.mpr c3
  have c3b1 : ((l0.length : Int) != (l1.length : Int)) = true := bne_iff_ne.mpr c3
  have c3b2 : (l0.length == l1.length) = false := by first | simpa using c3 | (simp at c3 ⊢; omega)
  obtain rfl := Option.some.inj H
  go_enter Try.func34, Try.ntmps34
  go_wp2
  repeat (go_quiet (fail); try go_wp2)
  go_ret
  exact ⟨by first | rfl | (simp; done) | (simp [*]; done), by repeat (first | exact Drawn0.refl _ | apply Drawn0.step)⟩

/-! ### rollcallref06_Same: function 55 -/
/-! ### rollcallref18_Frames: function 26 -/
end Go.Proofs.Ytmigglldahkngaa.PA
end

section
/- Queues over tables, in plain lists: which queues may be; what is set over a table. -/
namespace Go.Proofs.Ytmigglldahkngaa.XV17
open Go.RowKit Go.Proofs.Ytmigglldahkngaa.PA Go.Proofs.YtmigglldahkngaaW.PrintWords Go.Proofs.YtmigglldahkngaaW.PrintLast Go.Proofs.Ytmigglldahkngaa.XGen
open Go.Proofs.Ytmigglldahkngaa.XPlace (idx is)
open Go.Proofs.Ytmigglldahkngaa.XSet (atL)
open Go.Proofs.Ytmigglldahkngaa.XIns (insL)
open Go.Proofs.Ytmigglldahkngaa.XLess (lessB)
set_option linter.unusedVariables false
set_option linter.unusedSimpArgs false
abbrev Se := S72
def nth (l : List Ch) (j : Nat) : Ch := l.getD j z34
theorem nth_get (l : List Ch) (j : Nat) (h : j < l.length) : nth l j = l[j] := getD_lt l _ j h
def allO (l : List Ch) : Nat → Nat → Bool
 | 0, _ => true
 | d + 1, j => (decide (idx (is (nth l j).f0) l 0 = (j : Int)) && oneB (nth l j)) && allO l d (j + 1)
def mayQ (l : List Ch) (lat : Bool) (room : Int) : Bool := allO l l.length 0 && (decide ((l.length : Int) ≤ room) && (!lat || decide (l.length = 0)))
theorem mayLB (l : List Ch) (lat : Bool) (room : Int) (hl : l.length ≤ 1000000) (hs : ∀ x ∈ l, x.f0.size ≤ 9223372036854775807) : ∀ (d k j : Nat), j + d = l.length → d < k →
  queue_May.l0 k room l (l.length : Int) (j : Int) l lat = some (allO l d j && (decide ((l.length : Int) ≤ room) && (!lat || decide (l.length = 0)))) := by
 intro d
 induction d with
 | zero =>
  intro k j hj hk
  obtain ⟨k, rfl⟩ : ∃ m, k = m + 1 := ⟨k - 1, by omega⟩
  rw [queue_May.l0, if_neg (by omega)]
  by_cases c : (l.length : Int) ≤ room
  ·rw [if_pos c]
   cases lat with
   | true =>
    rw [if_pos rfl]
    simp only [allO, Bool.true_and, decide_eq_true c, Bool.not_true, Bool.false_or]
    congr 1
    by_cases e : l.length = 0
    ·rw [decide_eq_true e, e]; rfl
    ·rw [decide_eq_false e]; simpa using e
   | false => rw [if_neg (by simp)]; simp [allO, c]
  ·rw [if_neg c]; simp [c]
 | succ d ih =>
  intro k j hj hk
  obtain ⟨k, rfl⟩ : ∃ m, k = m + 1 := ⟨k - 1, by omega⟩
  have hm : l[j] ∈ l := List.getElem_mem _
  rw [queue_May.l0, if_pos (by omega), if_pos (by omega), if_pos (by omega), rd_at l j (by omega), place_f]
  simp only [Option.bind_some]
  rw [allO, nth_get l j (by omega)]
  by_cases c : idx (is l[j].f0) l 0 = (j : Int)
  ·rw [if_pos c, one_f l[j] (hs _ hm), decide_eq_true c]
   simp only [Option.bind_some, Bool.true_and]
   cases ho : oneB l[j] with
   | true => rw [if_pos rfl, wrap_succ j (by omega), ih k (j + 1) (by omega) (by omega), Bool.true_and]
   | false => rw [if_neg (by simp), Bool.false_and, Bool.false_and]
  ·rw [if_neg c, decide_eq_false c, Bool.false_and, Bool.false_and, Bool.false_and]
theorem may_b (k : Nat) (l : List Ch) (lat : Bool) (room : Int) (hl : l.length ≤ 1000000) (hs : ∀ x ∈ l, x.f0.size ≤ 9223372036854775807) (hk : l.length < k) : queue_May.f k l lat room = some (mayQ l lat room) := mayLB l lat room hl hs l.length k 0 (by omega) hk
theorem refMayLB (l : List Ch) (lat : Bool) (hl : l.length ≤ 1000000) : ∀ (d k j : Nat), j + d = l.length → d + l.length + 100 < k → rollcallref17_May.l0 k (j : Int) l lat = some (allO l d j) := by
 intro d
 induction d with
 | zero =>
  intro k j hj hk
  obtain ⟨k, rfl⟩ : ∃ m, k = m + 1 := ⟨k - 1, by omega⟩
  rw [rollcallref17_May.l0, if_neg (by omega)]
  rfl
 | succ d ih =>
  intro k j hj hk
  obtain ⟨k, rfl⟩ : ∃ m, k = m + 1 := ⟨k - 1, by omega⟩
  rw [rollcallref17_May.l0, if_pos (by omega), if_pos (by omega), rd_at l j (by omega), refOne_f k l[j] (by omega)]
  simp only [Option.bind_some]
  rw [allO, nth_get l j (by omega)]
  cases ho : oneB l[j] with
  | true =>
   rw [if_pos rfl, refPlace_f k l _ _ hl (by omega)]
   simp only [Option.bind_some]
   by_cases c : idx (is l[j].f0) l 0 = (j : Int)
   ·rw [if_pos c, wrap_succ j (by omega), ih k (j + 1) (by omega) (by omega), decide_eq_true c]
    simp
   ·rw [if_neg c, decide_eq_false c]
    simp
  | false => rw [if_neg (by simp)]; simp
theorem refMay_b (k : Nat) (l : List Ch) (lat : Bool) (room : Int) (hl : l.length ≤ 1000000) (hk : 2 * l.length + 110 < k) : rollcallref17_May.f k l lat room = some (mayQ l lat room) := by
 have hj : ∀ b, rollcallref17_May.j0 k b l lat = some (!b && allO l l.length 0) := fun b => by
  obtain ⟨k, rfl⟩ : ∃ m, k = m + 1 := ⟨k - 1, by omega⟩
  rw [rollcallref17_May.j0]
  cases b with
  | true => rw [if_pos rfl]; simp
  | false => rw [if_neg (by simp)]; rw [show (0 : Int) = ((0 : Nat) : Int) from rfl, refMayLB l lat hl l.length k 0 (by omega) (by omega)]; simp
 unfold rollcallref17_May.f mayQ
 rw [hj, hj, hj]
 by_cases c : (l.length : Int) > room
 ·rw [if_pos c, decide_eq_false (by omega)]; simp
 ·rw [if_neg c, decide_eq_true (show (l.length : Int) ≤ room by omega)]
  cases lat with
  | true =>
   rw [if_pos rfl]
   by_cases e : l.length = 0
   ·rw [decide_eq_true e, decide_eq_false (by omega)]; simp
   ·rw [decide_eq_false e, decide_eq_true (by omega)]; simp
  | false => rw [if_neg (by simp)]; simp
theorem empty_b (l : List Ch) (lat : Bool) : queue_Empty.f l lat = some (decide (l.length = 0) && !lat) := by
 unfold queue_Empty.f
 by_cases c : l.length = 0
 ·rw [if_pos (by omega), decide_eq_true c]; rfl
 ·rw [if_neg (by omega), decide_eq_false c]; rfl
theorem less_bytes : ∀ a b : List UInt8, Op.bytesLess a b = decide (Lib.compareBytes a b < 0)
 | [], [] => rfl
 | [], _ :: _ => rfl
 | _ :: _, [] => rfl
 | x :: a, y :: b => by
  rw [Op.bytesLess, Lib.compareBytes]
  by_cases c : x < y
  ·simp [c]
  ·rw [if_neg c]
   by_cases d : y < x
   ·rw [if_pos d]
    have hne : ¬ x = y := fun e => by subst e; exact c d
    simp [c, hne]
   ·rw [if_neg d]
    have he : x = y := by
     have h1 : ¬ x.toNat < y.toNat := fun h => c h
     have h2 : ¬ y.toNat < x.toNat := fun h => d h
     exact UInt8.toNat_inj.1 (by omega)
    subst he
    simp [less_bytes a b]
theorem refLess_b (a b : ByteArray) : rollcallref03_Less.f a b = some (lessB a b) := by
 unfold rollcallref03_Less.f lessB XLess.ordI XLess.orI XLess.cmpI XLess.byBytes
 by_cases c : (a.size : Int) < (b.size : Int)
 ·rw [if_pos c, if_pos c]; rfl
 ·rw [if_neg c, if_neg c]
  by_cases d : (a.size : Int) = (b.size : Int)
  ·rw [if_pos d, if_neg (by omega), less_bytes, Lib.toList_data, Lib.toList_data]
  ·rw [if_neg d, if_pos (by omega), if_pos (show (a.size : Int) > (b.size : Int) by omega)]; rfl
theorem rdS_at (l : List Se) (j : Nat) (h : j < l.length) : rd_T72 l (j : Int) = l[j] := by
 unfold rd_T72
 rw [Int.toNat_natCast, getD_lt l _ j h]
theorem sameSL (l : List Se) (hl : l.length ≤ 1000000) : ∀ (d k j : Nat), j + d = l.length → d < k → rollcallref05_Same.l0 k l l (j : Int) = some true := by
 intro d
 induction d with
 | zero =>
  intro k j hj hk
  obtain ⟨k, rfl⟩ : ∃ m, k = m + 1 := ⟨k - 1, by omega⟩
  rw [rollcallref05_Same.l0, if_neg (by omega)]
 | succ d ih =>
  intro k j hj hk
  obtain ⟨k, rfl⟩ : ∃ m, k = m + 1 := ⟨k - 1, by omega⟩
  rw [rollcallref05_Same.l0, if_pos (by omega), if_pos (by omega), if_pos (by omega), if_neg (by simp), wrap_succ j (by omega)]
  exact ih k (j + 1) (by omega) (by omega)
theorem sameS_f (k : Nat) (l : List Se) (hl : l.length ≤ 1000000) (hk : l.length < k) : rollcallref05_Same.f k l l = some true := by
 unfold rollcallref05_Same.f
 rw [if_pos rfl]
 exact sameSL l hl l.length k 0 (by omega) hk
theorem fewSL (l : List Se) (hl : l.length ≤ 1000000) : ∀ (d k j : Nat), j + d = l.length → d < k → ∃ b, rollcallref05_Few.l0 k l (j : Int) = some b := by
 intro d
 induction d with
 | zero =>
  intro k j hj hk
  obtain ⟨k, rfl⟩ : ∃ m, k = m + 1 := ⟨k - 1, by omega⟩
  rw [rollcallref05_Few.l0, if_neg (by omega)]
  exact ⟨_, rfl⟩
 | succ d ih =>
  intro k j hj hk
  obtain ⟨k, rfl⟩ : ∃ m, k = m + 1 := ⟨k - 1, by omega⟩
  rw [rollcallref05_Few.l0, if_pos (by omega), if_pos (by omega), wrap_succ j (by omega)]
  obtain ⟨b, hb⟩ := ih k (j + 1) (by omega) (by omega)
  split
  ·exact ⟨_, rfl⟩
  ·split
   ·exact ⟨_, rfl⟩
   ·exact ⟨b, hb⟩
theorem fewS_f (k : Nat) (l : List Se) (hk : 60 ≤ k) : ∃ q, rollcallref05_Few.f k l = some q ∧ (q = true → l.length ≤ 40) := by
 unfold rollcallref05_Few.f
 by_cases c : (l.length : Int) > 40
 ·rw [if_pos c]; exact ⟨_, rfl, fun h => by cases h⟩
 ·rw [if_neg c]
  obtain ⟨b, hb⟩ := fewSL l (by omega) l.length k 0 (by omega) (by omega)
  exact ⟨b, hb, fun _ => by omega⟩
end Go.Proofs.Ytmigglldahkngaa.XV17
end

section
-- Written by a program of this session (wip/tools/xprint.py), which drives the kit's print.
namespace Go.Proofs.Ytmigglldahkngaa.PA
open Go.RowKit Go.Proofs.YtmigglldahkngaaW.PrintWords Go.Proofs.YtmigglldahkngaaW.PrintLast Go.Proofs.YtmigglldahkngaaW.PrintMore Go.Proofs.Ytmigglldahkngaa.XQuiet
attribute [local go_sem] max2_int min2_int max_two min_two   -- for this text's walks alone
set_option linter.unusedVariables false
set_option linter.unusedSimpArgs false

/-! ### rollcallref05_May: function 27 -/
def rollcallref05_May.l0 : Nat → List (S72) → Int → Option (Bool)
 | 0, _, _ => none
 | k + 1, x0, x3 => if x3 < (x0.length : Int) then (if 0 ≤ x3 then ((rollcallref03_Is.f k ((rd_T72 x0 x3).f0)).bind fun t312 => (if t312 = true then ((rollcallref04_May.f k ((rd_T72 x0 x3).f1.f0) ((rd_T72 x0 x3).f1.f1) ((rd_T72 x0 x3).f1.f2) ((rd_T72 x0 x3).f1.f3)).bind fun t314 => (if t314 = true then (if x3 > 0 then (if 0 ≤ (wrap64 (x3 - 1)) then (if (wrap64 (x3 - 1)) < (x0.length : Int) then ((rollcallref03_Less.f ((rd_T72 x0 (wrap64 (x3 - 1))).f0) ((rd_T72 x0 x3).f0)).bind fun t317 => (if t317 = true then (rollcallref05_May.l0 k x0 (wrap64 (x3 + 1))) else (some false))) else (none)) else (none)) else (rollcallref05_May.l0 k x0 (wrap64 (x3 + 1)))) else (some false))) else (some false))) else (none)) else (some true)
def rollcallref05_May.f (k : Nat) (l0 : List (S72)) : Option (Bool) := if (l0.length : Int) > 32 then (some false) else (rollcallref05_May.l0 k l0 0)
set_option maxHeartbeats 8000000 in
set_option maxRecDepth 100000 in
theorem rollcallref05_May.calls (k : Nat) (A0 : Option Addr) (c0 : Nat) (l0 : List (S72)) (r : Bool) (w : World) (hr0 : Kd.C k72 w A0 l0.length l0) (hc0 : l0.length ≤ c0) (h : rollcallref05_May.f k l0 = some r) :
  Calls Try.prog 27 #[.slice A0 l0.length c0] w fun e w' => e = .returned (.bool r) ∧ Below w.heap.size w w' := by
 unfold rollcallref05_May.f at h
 have HR := Aside0.mk hr0
 clear hr0 hc0
 by_cases c : (l0.length : Int) > 32
 ·rw [if_pos c] at h
  obtain rfl := Option.some.inj h
  clear h
  go_enter Try.func27, Try.ntmps27
  have c' : (32 : Int) < (l0.length : Int) := c
  go_wp2
  go_ret
  exact ⟨rfl, Below.refl _ _⟩
 rw [if_neg c] at h
 have HH := Aside0.mk h
 have c' : (l0.length : Int) ≤ 32 := by omega
 clear h c
 go_enter Try.func27, Try.ntmps27
 have HB := Aside0.mk (Below.refl w.heap.size w)
 go_wp2
 go_loopg [3] k (fun g x wr => ∃ i : Nat, x = .int .i64 i ∧ i ≤ l0.length ∧ Aside0 (rollcallref05_May.l0 g l0 (i : Int) = some r) ∧ Aside0 (Below w.heap.size w wr))
 case atStart => exact ⟨0, rfl, Nat.zero_le _, HH, HB⟩
 case round =>
  obtain ⟨i, rfl, hi, hh, hb⟩ := hrel
  clear HH HB
  obtain ⟨g, rfl⟩ : ∃ g, gk = g + 1 := by
   cases gk with
   | zero => exact absurd hh.out (by simp [rollcallref05_May.l0])
   | succ g => exact ⟨g, rfl⟩
  have h := hh.out
  clear hh
  rw [rollcallref05_May.l0] at h
  by_cases hlt : (i : Int) < (l0.length : Int)
  ·rw [if_pos hlt, if_pos (by omega)] at h
   have hC := Kd.C_below HR.out hb.out
   obtain ⟨ad, he, h0, h1, h2, h3, h4⟩ := at_T72 hC (i : Int) (by omega) (by omega)
   subst he
   rw [Int.toNat_natCast] at h0 h1 h2 h3 h4
   have h0i : (0 : Int) ≤ (i : Int) := by omega
   generalize rd_T72 l0 (i : Int) = x at h h0 h1 h2 h3 h4
   rcases hI : rollcallref03_Is.f g x.f0 with _ | b1
   ·rw [hI] at h; exact absurd h (by simp)
   rw [hI] at h
   simp only [Option.bind_some] at h
   have d1 := fun u : Kin wr => rollcallref03_Is.calls g x.f0 b1 u.at' hI
   have y0 : ∀ u : Kin wr, u.at'.cell? _ = _ := Kin.cell h0
   have y1 : ∀ u : Kin wr, u.at'.cell? _ = _ := Kin.cell h1
   have y2 : ∀ u : Kin wr, u.at'.cell? _ = _ := Kin.cell h2
   have y3 : ∀ u : Kin wr, u.at'.cell? _ = _ := Kin.cell h3
   have y4 : ∀ u : Kin wr, u.at'.cell? _ = _ := Kin.cell h4
   clear hI
   cases b1 with
   | false =>
    rw [if_neg (by simp)] at h
    obtain rfl := Option.some.inj h
    go_wp2_with fail
    refine region_kin (by kernel_rfl) (by kernel_rfl) ?_
    repeat (go_big_quiet_step ((first | (go_at_call 56; first | exact Kin.call (d1 _) | exact Kin.same (d1 _) | exact Kin.call ((d1 _).mono fun _ _ q => ⟨q.1, q.2.below⟩)))))
    refine wpQuiet_nil ?_
    rintro w6 ⟨⟨_, b6⟩, rfl⟩
    have HX := Aside0.mk (below_step hb.out b6)
    clear hC h0 h1 h2 h3 h4 y0 y1 y2 y3 y4 d1 hb b6
    go_wp2
    go_ret
    exact ⟨rfl, HX.out⟩
   | true =>
    rw [if_pos rfl] at h
    rcases hJ : rollcallref04_May.f g x.f1.f0 x.f1.f1 x.f1.f2 x.f1.f3 with _ | b2
    ·rw [hJ] at h; exact absurd h (by simp)
    rw [hJ] at h
    simp only [Option.bind_some] at h
    have d2 := fun u : Kin wr => rollcallref04_May.calls g x.f1.f0 x.f1.f1 x.f1.f2 x.f1.f3 b2 u.at' hJ
    clear hJ
    cases b2 with
    | false =>
     rw [if_neg (by simp)] at h
     obtain rfl := Option.some.inj h
     go_wp2_with fail
     refine region_kin (by kernel_rfl) (by kernel_rfl) ?_
     repeat (go_big_quiet_step ((first | (go_at_call 56; first | exact Kin.call (d1 _) | exact Kin.same (d1 _) | exact Kin.call ((d1 _).mono fun _ _ q => ⟨q.1, q.2.below⟩)) | (go_at_call 57; first | exact Kin.call (d2 _) | exact Kin.same (d2 _) | exact Kin.call ((d2 _).mono fun _ _ q => ⟨q.1, q.2.below⟩)))))
     refine wpQuiet_nil ?_
     rintro w6 ⟨⟨_, b6⟩, rfl⟩
     have HX := Aside0.mk (below_step hb.out b6)
     clear hC h0 h1 h2 h3 h4 y0 y1 y2 y3 y4 d1 hb b6
     go_wp2
     go_ret
     exact ⟨rfl, HX.out⟩
    | true =>
     rw [if_pos rfl] at h
     by_cases hp : (i : Int) > 0
     rotate_left
     ·rw [if_neg hp] at h
      have hp' : ¬ (0 : Int) < (i : Int) := hp
      have hpd : decide ((0 : Int) < (i : Int)) = false := decide_eq_false hp'
      have hpn : decide (0 < i) = false := decide_eq_false (by omega)
      clear hp
      go_wp2_with fail
      refine region_kin (by kernel_rfl) (by kernel_rfl) ?_
      repeat (go_big_quiet_step ((first | (go_at_call 56; first | exact Kin.call (d1 _) | exact Kin.same (d1 _) | exact Kin.call ((d1 _).mono fun _ _ q => ⟨q.1, q.2.below⟩)) | (go_at_call 57; first | exact Kin.call (d2 _) | exact Kin.same (d2 _) | exact Kin.call ((d2 _).mono fun _ _ q => ⟨q.1, q.2.below⟩)))))
      refine wpQuiet_nil ?_
      rintro w6 ⟨⟨_, b6⟩, rfl⟩
      have HX := Aside0.mk (below_step hb.out b6)
      rw [show wrap64 ((i : Int) + 1) = ((i + 1 : Nat) : Int) by unfold wrap64; omega] at h
      have HN := Aside0.mk h
      have hw : IntKind.i64.wrap ((i : Int) + 1) = (i : Int) + 1 := by rw [IntKind.wrap_i64]; omega
      clear hC h0 h1 h2 h3 h4 y0 y1 y2 y3 y4 d1 hb b6 h
      go_wp2
      go_roundg g
      case measure => omega
      case rel => exact ⟨i + 1, by first | rfl | (congr 1), by omega, HN, HX⟩
     ·rw [if_pos hp] at h
      have hw1 : wrap64 ((i : Int) - 1) = ((i - 1 : Nat) : Int) := by unfold wrap64; omega
      have hw2 : IntKind.i64.wrap ((i : Int) - 1) = ((i - 1 : Nat) : Int) := by rw [IntKind.wrap_i64]; omega
      rw [hw1, if_pos (by omega), if_pos (by omega)] at h
      obtain ⟨ad2, he2, j0, _⟩ := at_T72 hC ((i - 1 : Nat) : Int) (by omega) (by omega)
      obtain rfl : ad = ad2 := by injection he2
      rw [Int.toNat_natCast] at j0
      have hp' : (0 : Int) < (i : Int) := hp
      have hpd : decide ((0 : Int) < (i : Int)) = true := decide_eq_true hp'
      have hpn : decide (0 < i) = true := decide_eq_true (by omega)
      have hq0 : (0 : Int) ≤ ((i - 1 : Nat) : Int) := by omega
      have hq1 : ((i - 1 : Nat) : Int) < (l0.length : Int) := by omega
      generalize rd_T72 l0 ((i - 1 : Nat) : Int) = y at h j0
      rcases hK : rollcallref03_Less.f y.f0 x.f0 with _ | b3
      ·rw [hK] at h; exact absurd h (by simp)
      rw [hK] at h
      simp only [Option.bind_some] at h
      have d3 := fun u : Kin wr => rollcallref03_Less.calls y.f0 x.f0 b3 u.at' hK
      have y5 : ∀ u : Kin wr, u.at'.cell? _ = _ := Kin.cell j0
      clear hK hp hw1 he2
      cases b3 with
      | false =>
       rw [if_neg (by simp)] at h
       obtain rfl := Option.some.inj h
       go_wp2_with fail
       refine region_kin (by kernel_rfl) (by kernel_rfl) ?_
       repeat (go_big_quiet_step ((first | (go_at_call 56; first | exact Kin.call (d1 _) | exact Kin.same (d1 _) | exact Kin.call ((d1 _).mono fun _ _ q => ⟨q.1, q.2.below⟩)) | (go_at_call 57; first | exact Kin.call (d2 _) | exact Kin.same (d2 _) | exact Kin.call ((d2 _).mono fun _ _ q => ⟨q.1, q.2.below⟩)) | (go_at_call 58; first | exact Kin.call (d3 _) | exact Kin.same (d3 _) | exact Kin.call ((d3 _).mono fun _ _ q => ⟨q.1, q.2.below⟩)))))
       refine wpQuiet_nil ?_
       rintro w6 ⟨⟨_, b6⟩, rfl⟩
       have HX := Aside0.mk (below_step hb.out b6)
       clear hC h0 h1 h2 h3 h4 y0 y1 y2 y3 y4 d1 hb b6
       go_wp2
       go_ret
       exact ⟨rfl, HX.out⟩
      | true =>
       rw [if_pos rfl] at h
       go_wp2_with fail
       refine region_kin (by kernel_rfl) (by kernel_rfl) ?_
       repeat (go_big_quiet_step ((first | (go_at_call 56; first | exact Kin.call (d1 _) | exact Kin.same (d1 _) | exact Kin.call ((d1 _).mono fun _ _ q => ⟨q.1, q.2.below⟩)) | (go_at_call 57; first | exact Kin.call (d2 _) | exact Kin.same (d2 _) | exact Kin.call ((d2 _).mono fun _ _ q => ⟨q.1, q.2.below⟩)) | (go_at_call 58; first | exact Kin.call (d3 _) | exact Kin.same (d3 _) | exact Kin.call ((d3 _).mono fun _ _ q => ⟨q.1, q.2.below⟩)))))
       refine wpQuiet_nil ?_
       rintro w6 ⟨⟨_, b6⟩, rfl⟩
       have HX := Aside0.mk (below_step hb.out b6)
       rw [show wrap64 ((i : Int) + 1) = ((i + 1 : Nat) : Int) by unfold wrap64; omega] at h
       have HN := Aside0.mk h
       have hw : IntKind.i64.wrap ((i : Int) + 1) = (i : Int) + 1 := by rw [IntKind.wrap_i64]; omega
       clear hC h0 h1 h2 h3 h4 y0 y1 y2 y3 y4 d1 hb b6 h
       go_wp2
       go_roundg g
       case measure => omega
       case rel => exact ⟨i + 1, by first | rfl | (congr 1), by omega, HN, HX⟩
  ·rw [if_neg hlt] at h
   obtain rfl := Option.some.inj h
   have hlt' : (l0.length : Int) ≤ (i : Int) := by omega
   have hnd : decide ((i : Int) < (l0.length : Int)) = false := decide_eq_false hlt
   clear h hlt
   go_wp2
   go_ret
   exact ⟨rfl, hb.out⟩
end Go.Proofs.Ytmigglldahkngaa.PA
end

section
/- Tables in order: what is set for unlike contacts may be set in either order; what is set anew for one contact stands alone. -/
namespace Go.Proofs.Ytmigglldahkngaa.XV17
open Go.RowKit Go.Proofs.Ytmigglldahkngaa.PA Go.Proofs.YtmigglldahkngaaW.PrintWords Go.Proofs.YtmigglldahkngaaW.PrintLast Go.Proofs.Ytmigglldahkngaa.XGen
open Go.Proofs.Ytmigglldahkngaa.XPlace (idx is)
open Go.Proofs.Ytmigglldahkngaa.XSet (atL)
open Go.Proofs.Ytmigglldahkngaa.XIns (insL)
open Go.Proofs.Ytmigglldahkngaa.XLess (lessB)
set_option linter.unusedVariables false
set_option linter.unusedSimpArgs false
theorem wrap_pred (j : Nat) (h : 0 < j) (h2 : j < 1000000000) : wrap64 ((j : Int) - 1) = ((j - 1 : Nat) : Int) := by
 rw [show ((j : Int) - 1) = ((j - 1 : Nat) : Int) by omega]
 unfold wrap64; omega
theorem bl_irr : ∀ a : List UInt8, Op.bytesLess a a = false
 | [] => rfl
 | x :: a => by rw [Op.bytesLess]; simp [bl_irr a]
def Srt (t : List Se) : Prop := t.Pairwise fun x y => lessB x.f0 y.f0 = true
theorem isT_iff (n : ByteArray) (x : Se) : XDel.is n x = true ↔ x.f0 = n := by simp [XDel.is, toList_inj]
def rowC (c : Ch) : Se := ⟨c.f0, ⟨c.f2.f0, c.f2.f1, c.f2.f2, c.f2.f3⟩⟩
end Go.Proofs.Ytmigglldahkngaa.XV17
end

section
/- Two changes pushed in either order, in plain lists. -/
namespace Go.Proofs.Ytmigglldahkngaa.XV17
open Go.RowKit Go.Proofs.Ytmigglldahkngaa.PA Go.Proofs.YtmigglldahkngaaW.PrintWords Go.Proofs.YtmigglldahkngaaW.PrintLast Go.Proofs.Ytmigglldahkngaa.XGen
open Go.Proofs.Ytmigglldahkngaa.XPlace (idx is)
set_option linter.unusedVariables false
set_option linter.unusedSimpArgs false
theorem is_own (x : Ch) : is x.f0 x = true := is_iff.2 rfl
theorem PU_lat (l : List Ch) (c : Ch) (room : Int) : PU l true c room = (l, true) := by unfold PU; rw [if_pos rfl]
end Go.Proofs.Ytmigglldahkngaa.XV17
end

section
/- law17's QueueLast in plain lists: what was told, with what waits over it, is what all changes make. -/
namespace Go.Proofs.Ytmigglldahkngaa.XV17
open Go.RowKit Go.Proofs.Ytmigglldahkngaa.PA Go.Proofs.YtmigglldahkngaaW.PrintWords Go.Proofs.YtmigglldahkngaaW.PrintLast Go.Proofs.Ytmigglldahkngaa.XGen
open Go.Proofs.Ytmigglldahkngaa.XPlace (idx is)
open Go.Proofs.Ytmigglldahkngaa.XIdent (isB okAt)
set_option linter.unusedVariables false
set_option linter.unusedSimpArgs false
theorem apart_tail {c : Ch} {l : List Ch} (h : Apart (c :: l)) : Apart l := fun i j hi hj hji => h (i + 1) (j + 1) (by simpa using hi) (by simpa using hj) (by omega)
theorem one_size {x : Ch} (h : oneB x = true) : x.f0.size ≤ 9223372036854775807 := by
 unfold oneB at h
 have h1 : isB x.f0 = true := by cases q : isB x.f0 <;> simp_all
 unfold isB at h1
 have h2 : decide (0 < x.f0.size ∧ x.f0.size ≤ 16) = true := by cases q : decide (0 < x.f0.size ∧ x.f0.size ≤ 16) <;> simp_all
 have := of_decide_eq_true h2
 omega
end Go.Proofs.Ytmigglldahkngaa.XV17
end

section
-- Written by a program of this session (wip/tools/xprint.py), which drives the kit's print.
namespace Go.Proofs.Ytmigglldahkngaa.PA
open Go.RowKit Go.Proofs.YtmigglldahkngaaW.PrintWords Go.Proofs.YtmigglldahkngaaW.PrintLast Go.Proofs.YtmigglldahkngaaW.PrintMore
attribute [local go_sem] max2_int min2_int max_two min_two   -- for this text's walks alone
set_option linter.unusedVariables false
set_option linter.unusedSimpArgs false

/-! ### rollcallref17_Pop: function 54 -/
def rollcallref17_Pop.B3 : List Nat := [0, 1, 3, 7, 0, 16, 48, 0, 128, 496, 15, 2047, 4095]
end Go.Proofs.Ytmigglldahkngaa.PA
end

section
/- What the reference's functions of queue answer, over plain lists: pushes, pops, tables. -/
namespace Go.Proofs.Ytmigglldahkngaa.XV17
open Go.RowKit Go.Proofs.Ytmigglldahkngaa.PA Go.Proofs.YtmigglldahkngaaW.PrintWords Go.Proofs.YtmigglldahkngaaW.PrintLast Go.Proofs.Ytmigglldahkngaa.XGen
open Go.Proofs.Ytmigglldahkngaa.XPlace (idx is)
open Go.Proofs.Ytmigglldahkngaa.XSet (atL)
open Go.Proofs.Ytmigglldahkngaa.XIns (insL)
open Go.Proofs.Ytmigglldahkngaa.XLess (lessB)
set_option linter.unusedVariables false
set_option linter.unusedSimpArgs false
def isS (n : ByteArray) (x : Se) : Bool := x.f0.toList == n.toList
end Go.Proofs.Ytmigglldahkngaa.XV17
end

section
-- Written by a program of this session (wip/tools/xprint.py), which drives the kit's print.
namespace Go.Proofs.Ytmigglldahkngaa.PA
open Go.RowKit Go.Proofs.YtmigglldahkngaaW.PrintWords Go.Proofs.YtmigglldahkngaaW.PrintLast Go.Proofs.YtmigglldahkngaaW.PrintMore
attribute [local go_sem] max2_int min2_int max_two min_two   -- for this text's walks alone
set_option linter.unusedVariables false
set_option linter.unusedSimpArgs false

/-! ### rollcallref05_Put: function 59 -/
/-! ### rollcallref05_Sum: function 33 -/
/-! ### rollcallref16_Level: function 29 -/
def rollcallref16_Level.j0 : Nat → Int → Bool → Int → Int → Int → Int → Int → Int → Option (Int)
 | 0, _, _, _, _, _, _, _, _ => none
 | k + 1, x2, x15, x348000, x348001, x348002, x348003, x349000, x349001 => if x15 = true then (some 0) else (if x2 ≤ x349001 then (some x349000) else (some (mn x348001 (wrap64 (x349000 + (wrap64 ((wrap64 (x2 - x349001)) * x348002)))))))
def rollcallref16_Level.f (k : Nat) (a0_0 : Int) (a0_1 : Int) (a0_2 : Int) (a0_3 : Int) (a1_0 : Int) (a1_1 : Int) (a2 : Int) : Option (Int) := (rollcallref16_One.f a0_0 a0_1 a0_2 a0_3 a1_0 a1_1).bind fun t349 => (if t349 = true then ((rollcallref16_Time.f a2).bind fun t350 => (rollcallref16_Level.j0 k a2 (!t350) a0_0 a0_1 a0_2 a0_3 a1_0 a1_1)) else (rollcallref16_Level.j0 k a2 true a0_0 a0_1 a0_2 a0_3 a1_0 a1_1))
set_option maxHeartbeats 8000000 in
set_option maxRecDepth 100000 in
theorem rollcallref16_Level.calls (k : Nat) (a0_0 : Int) (a0_1 : Int) (a0_2 : Int) (a0_3 : Int) (a1_0 : Int) (a1_1 : Int) (a2 : Int) (r : Int) (w : World) (h : rollcallref16_Level.f k a0_0 a0_1 a0_2 a0_3 a1_0 a1_1 a2 = some r) :
  Calls Try.prog 29 #[.agg #[.int .i64 a0_0, .int .i64 a0_1, .int .i64 a0_2, .int .i64 a0_3], .agg #[.int .i64 a1_0, .int .i64 a1_1], .int .i64 a2] w fun e w' => e = .returned (.int .i64 r) ∧ Below w.heap.size w w' := by
 have hu23 := Try.underlying23
 have hu28 := Try.underlying28
 have HB := Aside0.mk (Below.refl w.heap.size w)
 have H : ((rollcallref16_One.f a0_0 a0_1 a0_2 a0_3 a1_0 a1_1).bind fun t349 => (if t349 = true then ((rollcallref16_Time.f a2).bind fun t350 => (rollcallref16_Level.j0 k a2 (!t350) a0_0 a0_1 a0_2 a0_3 a1_0 a1_1)) else (rollcallref16_Level.j0 k a2 true a0_0 a0_1 a0_2 a0_3 a1_0 a1_1))) = some r := h
 clear h
 have HC4 := Aside0.mk H
 clear H
 go_enter Try.func29, Try.ntmps29
 go_upto_region 1 with (first | ((with_reducible refine gate_dst (N := 3) rfl ?_); refine box_event ?hg (N := 3) ?hd (cs := #[.int .i64 a0_0, .int .i64 a0_1, .int .i64 a0_2, .int .i64 a0_3]) (t := 23) ?hr ?_; (case hd => rfl); (case hg => rfl); (case hr => first | (go_simp; done) | (go_simp; rfl)); intro gb347 hg w5 hbox hb; have BK347 := Aside0.mk (hbox); have GW347 := Aside0.mk ((by rw [hg]; exact (below_size (hS HB.out)) : w.heap.size ≤ gb347)); have GE347 := Aside0.mk ((by rw [hg]; exact (below_size (hS HB.out)) : w.heap.size ≤ gb347)); replace HB := Aside0.mk (below_step (hS HB.out) hb); clear hb hbox hg) | ((with_reducible refine gate_dst (N := 4) rfl ?_); refine box_event ?hg (N := 4) ?hd (cs := #[.int .i64 a1_0, .int .i64 a1_1]) (t := 28) ?hr ?_; (case hd => rfl); (case hg => rfl); (case hr => first | (go_simp; done) | (go_simp; rfl)); intro gb348 hg w6 hbox hb; have BK348 := Aside0.mk (hbox); have GW348 := Aside0.mk ((by rw [hg]; exact (below_size (hS HB.out)) : w.heap.size ≤ gb348)); have GE348 := Aside0.mk ((by rw [hg]; exact (below_size (hS HB.out)) : w.heap.size ≤ gb348)); replace HB := Aside0.mk (below_step (hS HB.out) hb); have NB347_348 := Aside0.mk ((by rw [hg]; exact Nat.ne_of_lt (blk_lt (bS BK347.out)) : gb347 ≠ gb348)); have NB348_347 := Aside0.mk ((by rw [hg]; exact Nat.ne_of_gt (blk_lt (bS BK347.out)) : gb348 ≠ gb347)); replace BK347 := Aside0.mk (blk_below (bS BK347.out) hb); clear hb hbox hg))
 (try simp only [Act.put, List.setIfInBounds_toArray, List.set_cons_zero, List.set_cons_succ])
 go_cut [15] (fun v15 wc => ∃ (kq : Nat) (x15_3 : Bool), v15 = .bool x15_3 ∧ Aside0 (rollcallref16_Level.j0 kq a2 x15_3 a0_0 a0_1 a0_2 a0_3 a1_0 a1_1 = some r) ∧ Aside0 (kq ≤ k) ∧ Aside0 (wc.heap[gb347]? = some (.cells #[.int .i64 a0_0, .int .i64 a0_1, .int .i64 a0_2, .int .i64 a0_3] 23 (0, 0))) ∧ Aside0 (wc.heap[gb348]? = some (.cells #[.int .i64 a1_0, .int .i64 a1_1] 28 (0, 0))) ∧ Aside0 (Below w.heap.size w wc))
 case first =>
  have H := HC4.out
  clear HC4
  replace H := Option.bind_eq_some_iff.mp H
  obtain ⟨t349, A70, H⟩ := H
  replace H : (if t349 = true then ((rollcallref16_Time.f a2).bind fun t350 => (rollcallref16_Level.j0 k a2 (!t350) a0_0 a0_1 a0_2 a0_3 a1_0 a1_1)) else (rollcallref16_Level.j0 k a2 true a0_0 a0_1 a0_2 a0_3 a1_0 a1_1)) = some r := H
  have A7 := Aside0.mk A70
  clear A70
  by_cases c8 : t349 = true
  ·subst c8
   have H1 : ((rollcallref16_Time.f a2).bind fun t350 => (rollcallref16_Level.j0 k a2 (!t350) a0_0 a0_1 a0_2 a0_3 a1_0 a1_1)) = some r := by rw [if_pos rfl] at H; exact H
   clear H
   have H := H1
   clear H1
   replace H := Option.bind_eq_some_iff.mp H
   obtain ⟨t350, A90, H⟩ := H
   replace H : (rollcallref16_Level.j0 k a2 (!t350) a0_0 a0_1 a0_2 a0_3 a1_0 a1_1) = some r := H
   have A9 := Aside0.mk A90
   clear A90
   have H' := Aside0.mk H
   clear H
   have hnb10 := NB347_348.out
   have hnc10 := NB348_347.out
   have hcz11_0 : w6.cell? ⟨gb347, 0, none⟩ = some (.int .i64 a0_0) := (blk_cell BK347.out 0).trans rfl
   have hcz11_1 : w6.cell? ⟨gb347, 1, none⟩ = some (.int .i64 a0_1) := (blk_cell BK347.out 1).trans rfl
   have hcz11_2 : w6.cell? ⟨gb347, 2, none⟩ = some (.int .i64 a0_2) := (blk_cell BK347.out 2).trans rfl
   have hcz11_3 : w6.cell? ⟨gb347, 3, none⟩ = some (.int .i64 a0_3) := (blk_cell BK347.out 3).trans rfl
   have hfz11_0 := blk_frozen BK347.out 0
   have hfz11_1 := blk_frozen BK347.out 1
   have hfz11_2 := blk_frozen BK347.out 2
   have hfz11_3 := blk_frozen BK347.out 3
   have hcz12_0 : w6.cell? ⟨gb348, 0, none⟩ = some (.int .i64 a1_0) := (blk_cell BK348.out 0).trans rfl
   have hcz12_1 : w6.cell? ⟨gb348, 1, none⟩ = some (.int .i64 a1_1) := (blk_cell BK348.out 1).trans rfl
   have hfz12_0 := blk_frozen BK348.out 0
   have hfz12_1 := blk_frozen BK348.out 1
   go_wp2_with (first | ((with_reducible refine gate_callee (f := 44) rfl ?_); refine goesL_ (some 9) rfl rfl Try.func44 (by kernel_rfl) rfl #[.agg #[.int .i64 a0_0, .int .i64 a0_1, .int .i64 a0_2, .int .i64 a0_3], .agg #[.int .i64 a1_0, .int .i64 a1_1]] rfl (by (try simp only [List.map_toArray, List.map_cons, List.map_nil]); first | done | rfl | (simp only [List.length_drop, List.length_take]; rfl)) ?_; (with_reducible refine (rollcallref16_One.calls a0_0 a0_1 a0_2 a0_3 a1_0 a1_1 true _ A7.out).mono ?_); rintro e w13 ⟨rfl, hb⟩; refine ⟨_, rfl, ?_⟩; replace BK347 := Aside0.mk (blk_below (bS BK347.out) hb); replace BK348 := Aside0.mk (blk_below (bS BK348.out) hb); replace HB := Aside0.mk (below_step (hS HB.out) hb); (try clear hb); (try clear hb2); (try clear hk); (try clear hi)) | (go_at_call 28; (with_reducible refine (rollcallref16_Time.calls a2 t350 _ A9.out).mono ?_); rintro e w' ⟨rfl, ⟨nd, rfl⟩⟩))
   go_meet
   case rel => exact ⟨_, (!t350), (by first | rfl | (simp; done) | (simp [*]; done)), H', ⟨by first | omega | exact Nat.le_refl _⟩, ⟨bS BK347.out⟩, ⟨bS BK348.out⟩, ⟨by repeat (first | (with_reducible first | exact HB.out | apply below_alloc | apply pw_below_drewN | apply below_drew1 | refine below_set ?_ GE347.out | refine below_set ?_ GE348.out) | exact HB.out)⟩⟩
  ·replace c8 := Bool.eq_false_iff.mpr c8
   subst c8
   have H1 : (rollcallref16_Level.j0 k a2 true a0_0 a0_1 a0_2 a0_3 a1_0 a1_1) = some r := by rw [if_neg (show ¬ (false = true) by decide)] at H; exact H
   clear H
   have H := H1
   clear H1
   have H' := Aside0.mk H
   clear H
   have hnb14 := NB347_348.out
   have hnc14 := NB348_347.out
   have hcz15_0 : w6.cell? ⟨gb347, 0, none⟩ = some (.int .i64 a0_0) := (blk_cell BK347.out 0).trans rfl
   have hcz15_1 : w6.cell? ⟨gb347, 1, none⟩ = some (.int .i64 a0_1) := (blk_cell BK347.out 1).trans rfl
   have hcz15_2 : w6.cell? ⟨gb347, 2, none⟩ = some (.int .i64 a0_2) := (blk_cell BK347.out 2).trans rfl
   have hcz15_3 : w6.cell? ⟨gb347, 3, none⟩ = some (.int .i64 a0_3) := (blk_cell BK347.out 3).trans rfl
   have hfz15_0 := blk_frozen BK347.out 0
   have hfz15_1 := blk_frozen BK347.out 1
   have hfz15_2 := blk_frozen BK347.out 2
   have hfz15_3 := blk_frozen BK347.out 3
   have hcz16_0 : w6.cell? ⟨gb348, 0, none⟩ = some (.int .i64 a1_0) := (blk_cell BK348.out 0).trans rfl
   have hcz16_1 : w6.cell? ⟨gb348, 1, none⟩ = some (.int .i64 a1_1) := (blk_cell BK348.out 1).trans rfl
   have hfz16_0 := blk_frozen BK348.out 0
   have hfz16_1 := blk_frozen BK348.out 1
   go_wp2_with (first | ((with_reducible refine gate_callee (f := 44) rfl ?_); refine goesL_ (some 9) rfl rfl Try.func44 (by kernel_rfl) rfl #[.agg #[.int .i64 a0_0, .int .i64 a0_1, .int .i64 a0_2, .int .i64 a0_3], .agg #[.int .i64 a1_0, .int .i64 a1_1]] rfl (by (try simp only [List.map_toArray, List.map_cons, List.map_nil]); first | done | rfl | (simp only [List.length_drop, List.length_take]; rfl)) ?_; (with_reducible refine (rollcallref16_One.calls a0_0 a0_1 a0_2 a0_3 a1_0 a1_1 false _ A7.out).mono ?_); rintro e w17 ⟨rfl, hb⟩; refine ⟨_, rfl, ?_⟩; replace BK347 := Aside0.mk (blk_below (bS BK347.out) hb); replace BK348 := Aside0.mk (blk_below (bS BK348.out) hb); replace HB := Aside0.mk (below_step (hS HB.out) hb); (try clear hb); (try clear hb2); (try clear hk); (try clear hi)))
   go_meet
   case rel => exact ⟨_, (true), (by first | rfl | (simp; done) | (simp [*]; done)), H', ⟨by first | omega | exact Nat.le_refl _⟩, ⟨bS BK347.out⟩, ⟨bS BK348.out⟩, ⟨by repeat (first | (with_reducible first | exact HB.out | apply below_alloc | apply pw_below_drewN | apply below_drew1 | refine below_set ?_ GE347.out | refine below_set ?_ GE348.out) | exact HB.out)⟩⟩
 case rest =>
  clear HC4
  try clear c1
  try clear c2
  try clear p2
  try clear c4
  try clear c8
  try clear c10
  try clear c14
  try clear hcz11_0
  try clear hcz11_1
  try clear hcz11_2
  try clear hcz11_3
  try clear hcz12_0
  try clear hcz12_1
  try clear hcz15_0
  try clear hcz15_1
  try clear hcz15_2
  try clear hcz15_3
  try clear hcz16_0
  try clear hcz16_1
  try clear hfz11_0
  try clear hfz11_1
  try clear hfz11_2
  try clear hfz11_3
  try clear hfz12_0
  try clear hfz12_1
  try clear hfz15_0
  try clear hfz15_1
  try clear hfz15_2
  try clear hfz15_3
  try clear hfz16_0
  try clear hfz16_1
  obtain ⟨kq, x15_3, rfl, HA, HJ3, BK347, BK348, HB⟩ := hcut
  cases kq with
  | zero => exact absurd HA.out (by simp [rollcallref16_Level.j0])
  | succ kj3 =>
   have H := HA.out
   clear HA
   simp only [rollcallref16_Level.j0] at H
   by_cases c18 : x15_3 = true
   ·subst c18
    have H1 : (some 0) = some r := by rw [if_pos rfl] at H; exact H
    clear H
    have H := H1
    clear H1
    obtain rfl := Option.some.inj H
    go_wp2
    go_ret
    exact ⟨by first | rfl | (simp [errW_none, errW_some] <;> rfl) | (simp [*, errW_none, errW_some] <;> rfl), by repeat (first | (with_reducible first | exact HB.out | apply below_alloc | apply pw_below_drewN | apply below_drew1 | refine below_set ?_ GE347.out | refine below_set ?_ GE348.out) | exact HB.out)⟩
   ·replace c18 := Bool.eq_false_iff.mpr c18
    subst c18
    have H1 : (if a2 ≤ a1_1 then (some a1_0) else (some (mn a0_1 (wrap64 (a1_0 + (wrap64 ((wrap64 (a2 - a1_1)) * a0_2))))))) = some r := by rw [if_neg (show ¬ (false = true) by decide)] at H; exact H
    clear H
    have H := H1
    clear H1
    by_cases c19 : a2 ≤ a1_1
    ·rw [if_pos c19] at H
     have c19b0 : decide (a2 ≤ a1_1) = true := decide_eq_true c19
     clear c19
     obtain rfl := Option.some.inj H
     have hnb20 := NB348_347.out
     have hnc20 := NB347_348.out
     have hcz21_0 : wc.cell? ⟨gb348, 0, none⟩ = some (.int .i64 a1_0) := (blk_cell BK348.out 0).trans rfl
     have hcz21_1 : wc.cell? ⟨gb348, 1, none⟩ = some (.int .i64 a1_1) := (blk_cell BK348.out 1).trans rfl
     have hfz21_0 := blk_frozen BK348.out 0
     have hfz21_1 := blk_frozen BK348.out 1
     go_wp2
     go_ret
     exact ⟨by first | rfl | (simp [errW_none, errW_some] <;> rfl) | (simp [*, errW_none, errW_some] <;> rfl), by repeat (first | (with_reducible first | exact HB.out | apply below_alloc | apply pw_below_drewN | apply below_drew1 | refine below_set ?_ GE347.out | refine below_set ?_ GE348.out) | exact HB.out)⟩
    ·rw [if_neg c19] at H
     have c19b0 : decide (a2 ≤ a1_1) = false := decide_eq_false c19
     clear c19
     obtain ⟨ji22, hji22⟩ : ∃ j_ : Int, (mn a0_1 (wrap64 (a1_0 + (wrap64 ((wrap64 (a2 - a1_1)) * a0_2))))) = j_ := ⟨_, rfl⟩
     replace H : (some ji22) = some r := by first | (rw [hji22] at H; exact H) | (simp only [hji22] at H ⊢; exact H)
     have hji22_ : (if (wrap64 (a1_0 + (wrap64 ((wrap64 (a2 - a1_1)) * a0_2)))) < a0_1 then (wrap64 (a1_0 + (wrap64 ((wrap64 (a2 - a1_1)) * a0_2)))) else a0_1) = ji22 := hji22
     obtain rfl := Option.some.inj H
     have hnb23 := NB348_347.out
     have hnc23 := NB347_348.out
     have hcz24_0 : wc.cell? ⟨gb348, 0, none⟩ = some (.int .i64 a1_0) := (blk_cell BK348.out 0).trans rfl
     have hcz24_1 : wc.cell? ⟨gb348, 1, none⟩ = some (.int .i64 a1_1) := (blk_cell BK348.out 1).trans rfl
     have hfz24_0 := blk_frozen BK348.out 0
     have hfz24_1 := blk_frozen BK348.out 1
     have hcz25_0 : wc.cell? ⟨gb347, 0, none⟩ = some (.int .i64 a0_0) := (blk_cell BK347.out 0).trans rfl
     have hcz25_1 : wc.cell? ⟨gb347, 1, none⟩ = some (.int .i64 a0_1) := (blk_cell BK347.out 1).trans rfl
     have hcz25_2 : wc.cell? ⟨gb347, 2, none⟩ = some (.int .i64 a0_2) := (blk_cell BK347.out 2).trans rfl
     have hcz25_3 : wc.cell? ⟨gb347, 3, none⟩ = some (.int .i64 a0_3) := (blk_cell BK347.out 3).trans rfl
     have hfz25_0 := blk_frozen BK347.out 0
     have hfz25_1 := blk_frozen BK347.out 1
     have hfz25_2 := blk_frozen BK347.out 2
     have hfz25_3 := blk_frozen BK347.out 3
     go_wp2
     go_ret
     exact ⟨by first | rfl | (simp [errW_none, errW_some] <;> rfl) | (simp only [← hji22]; first | rfl | (simp [errW_none, errW_some] <;> rfl)) | (simp [*, errW_none, errW_some] <;> rfl), by repeat (first | (with_reducible first | exact HB.out | apply below_alloc | apply pw_below_drewN | apply below_drew1 | refine below_set ?_ GE347.out | refine below_set ?_ GE348.out) | exact HB.out)⟩

/-! ### rollcallref16_Take: function 53 -/
end Go.Proofs.Ytmigglldahkngaa.PA
end

section
/- Tables and their sums, buckets, and which links may be, in plain lists: what the printed functions, and their references, answer. -/
namespace Go.Proofs.Ytmigglldahkngaa.XV17
open Go.RowKit Go.Proofs.Ytmigglldahkngaa.PA Go.Proofs.YtmigglldahkngaaW.PrintWords Go.Proofs.YtmigglldahkngaaW.PrintLast Go.Proofs.Ytmigglldahkngaa.XGen
open Go.Proofs.Ytmigglldahkngaa.XPlace (idx is)
open Go.Proofs.Ytmigglldahkngaa.XLess (lessB)
open Go.Proofs.Ytmigglldahkngaa.XIdent (isB)
open Go.Proofs.Ytmigglldahkngaa.XMay (mayB)
open Go.Proofs.Ytmigglldahkngaa.XPut (P nameP PV cat)
open Go.Proofs.Ytmigglldahkngaa.XSum (rowB putB putB_size rowB_size fstep fnv sumB)
open Go.Proofs.Ytmigglldahkngaa.XPace (TK lvl tk Fits fits_f)
set_option linter.unusedVariables false
set_option linter.unusedSimpArgs false
theorem wrap64_in (n : Int) (h : -9223372036854775808 ≤ n ∧ n ≤ 9223372036854775807) : wrap64 n = n := by unfold wrap64; omega
/-! ### tables -/
def rowOk (x : Se) : Bool := isB x.f0 && mayB x.f1.f0 x.f1.f1 x.f1.f2 x.f1.f3
def nthS (t : List Se) (j : Nat) : Se := t.getD j z72
theorem nthS_get (t : List Se) (j : Nat) (h : j < t.length) : nthS t j = t[j] := getD_lt t _ j h
def allT (t : List Se) : Nat → Nat → Bool
 | 0, _ => true
 | d + 1, j => rowOk (nthS t j) && ((decide (j = 0) || lessB (nthS t (j - 1)).f0 (nthS t j).f0) && allT t d (j + 1))
/-- Whether a table may be. -/
def mayT (t : List Se) : Bool := decide (t.length ≤ 32) && allT t t.length 0
theorem refMayTL (t : List Se) (ht : t.length ≤ 1000) : ∀ (d k j : Nat), j + d = t.length → d + 60 < k → rollcallref05_May.l0 k t (j : Int) = some (allT t d j) := by
 intro d
 induction d with
 | zero =>
  intro k j hj hk
  obtain ⟨k, rfl⟩ : ∃ m, k = m + 1 := ⟨k - 1, by omega⟩
  rw [rollcallref05_May.l0, if_neg (by omega)]; rfl
 | succ d ih =>
  intro k j hj hk
  obtain ⟨k, rfl⟩ : ∃ m, k = m + 1 := ⟨k - 1, by omega⟩
  rw [rollcallref05_May.l0, if_pos (by omega), if_pos (by omega), rdS_at t j (by omega), refIs_f k _ (by omega), refMay_f k _ _ _ _ (by omega), allT, nthS_get t j (by omega), rowOk]
  simp only [Option.bind_some]
  have hb := ih k (j + 1) (by omega) (by omega)
  cases isB t[j].f0 with
  | false => simp
  | true =>
   cases mayB t[j].f1.f0 t[j].f1.f1 t[j].f1.f2 t[j].f1.f3 with
   | false => simp
   | true =>
    rw [if_pos rfl, if_pos rfl]
    by_cases c : (j : Int) > 0
    ·rw [if_pos c, wrap_pred j (by omega) (by omega), if_pos (by omega), if_pos (by omega), rdS_at t (j - 1) (by omega), refLess_b, nthS_get t (j - 1) (by omega), decide_eq_false (show ¬ j = 0 by omega)]
     simp only [Option.bind_some]
     cases lessB (t[j - 1]'(by omega)).f0 t[j].f0 with
     | false => simp
     | true => rw [if_pos rfl, wrap_succ j (by omega), hb]; simp
    ·rw [if_neg c, wrap_succ j (by omega), hb, decide_eq_true (show j = 0 by omega)]; simp
theorem refMayT_b (k : Nat) (t : List Se) (hk : 200 ≤ k) : rollcallref05_May.f k t = some (mayT t) := by
 unfold rollcallref05_May.f mayT
 by_cases c : (t.length : Int) > 32
 ·rw [if_pos c, decide_eq_false (by omega)]; rfl
 ·rw [if_neg c, show (0 : Int) = ((0 : Nat) : Int) from rfl, refMayTL t (by omega) t.length k 0 (by omega) (by omega), decide_eq_true (by omega)]; rfl
theorem digMayTL (t : List Se) (ht : t.length ≤ 1000) (hs : ∀ x ∈ t, x.f0.size ≤ 9223372036854775807) : ∀ (d k j : Nat), j + d = t.length → d < k → digest_May.l0 k t t (t.length : Int) (j : Int) = some (allT t d j && decide (t.length ≤ 32)) := by
 intro d
 induction d with
 | zero =>
  intro k j hj hk
  obtain ⟨k, rfl⟩ : ∃ m, k = m + 1 := ⟨k - 1, by omega⟩
  rw [digest_May.l0, if_neg (by omega), allT]
  simp only [Bool.true_and, Option.some.injEq, decide_eq_decide]
  omega
 | succ d ih =>
  intro k j hj hk
  obtain ⟨k, rfl⟩ : ∃ m, k = m + 1 := ⟨k - 1, by omega⟩
  have hI : XIdent.ident_Is.f t[j].f0 = some (isB t[j].f0) := by unfold XIdent.ident_Is.f; rw [if_pos (hs _ (List.getElem_mem _))]
  rw [digest_May.l0, if_pos (by omega), if_pos (by omega), if_pos (by omega), rdS_at t j (by omega), show ident_Is.f t[j].f0 = some (isB t[j].f0) from hI, XPut.may_f, allT, nthS_get t j (by omega), rowOk]
  simp only [Option.bind_some]
  have hb := ih k (j + 1) (by omega) (by omega)
  cases isB t[j].f0 with
  | false => simp
  | true =>
   cases mayB t[j].f1.f0 t[j].f1.f1 t[j].f1.f2 t[j].f1.f3 with
   | false => simp
   | true =>
    rw [if_pos rfl, if_pos rfl]
    by_cases c : (j : Int) > 0
    ·rw [if_pos c, wrap_pred j (by omega) (by omega), if_pos (by omega), if_pos (by omega), rdS_at t (j - 1) (by omega), nthS_get t (j - 1) (by omega), decide_eq_false (show ¬ j = 0 by omega)]
     have hL : XLess.ident_Less.f (t[j - 1]'(by omega)).f0 t[j].f0 = some (lessB (t[j - 1]'(by omega)).f0 t[j].f0) := rfl
     rw [show ident_Less.f (t[j - 1]'(by omega)).f0 t[j].f0 = some (lessB (t[j - 1]'(by omega)).f0 t[j].f0) from hL]
     simp only [Option.bind_some]
     cases lessB (t[j - 1]'(by omega)).f0 t[j].f0 with
     | false => simp
     | true => rw [if_pos rfl, wrap_succ j (by omega), hb]; simp
    ·rw [if_neg c, wrap_succ j (by omega), hb, decide_eq_true (show j = 0 by omega)]; simp
theorem digMayT_b (k : Nat) (t : List Se) (ht : t.length ≤ 1000) (hs : ∀ x ∈ t, x.f0.size ≤ 9223372036854775807) (hk : t.length < k) : digest_May.f k t = some (mayT t) := by
 unfold digest_May.f mayT
 have := digMayTL t ht hs t.length k 0 (by omega) hk
 rw [show ((0 : Nat) : Int) = 0 from rfl] at this
 rw [this, Bool.and_comm]
/-! ### sums -/
/-! ### buckets -/
theorem ref16May_b (c0 c1 c2 c3 : Int) : rollcallref16_May.f c0 c1 c2 c3 = some (decide (1 ≤ c0 ∧ c0 ≤ 16 ∧ 1 ≤ c1 ∧ c1 ≤ 64 ∧ 1 ≤ c2 ∧ c2 ≤ 16 ∧ 1 ≤ c3 ∧ c3 ≤ 1000)) := by
 unfold rollcallref16_May.f
 repeat' split
 all_goals (simp only [Option.some.injEq]; symm; first | (rw [decide_eq_decide]; omega) | (rw [decide_eq_false_iff_not]; omega))
theorem time_b (n : Int) : rollcallref16_Time.f n = some (decide (0 ≤ n ∧ n ≤ 1099511627776)) := by
 unfold rollcallref16_Time.f
 split
 all_goals (simp only [Option.some.injEq]; symm; first | (rw [decide_eq_decide]; omega) | (rw [decide_eq_false_iff_not]; omega))
/-- Whether a bucket may be one of a config. -/
def OneP (c0 c1 c2 c3 t a : Int) : Prop := (1 ≤ c0 ∧ c0 ≤ 16 ∧ 1 ≤ c1 ∧ c1 ≤ 64 ∧ 1 ≤ c2 ∧ c2 ≤ 16 ∧ 1 ≤ c3 ∧ c3 ≤ 1000) ∧ 0 ≤ t ∧ t ≤ c1 ∧ 0 ≤ a ∧ a ≤ 1099511627776
instance (c0 c1 c2 c3 t a : Int) : Decidable (OneP c0 c1 c2 c3 t a) := by unfold OneP; infer_instance
theorem one16_b (c0 c1 c2 c3 t a : Int) : rollcallref16_One.f c0 c1 c2 c3 t a = some (decide (OneP c0 c1 c2 c3 t a)) := by
 unfold rollcallref16_One.f
 rw [ref16May_b, time_b]
 simp only [Option.bind_some, decide_eq_true_eq]
 repeat' split
 all_goals (simp only [Option.some.injEq]; symm; first | (rw [decide_eq_decide]; unfold OneP; omega) | (rw [decide_eq_false_iff_not]; unfold OneP; omega))
theorem fits_iff (c0 c1 c2 c3 t a n : Int) : Fits c0 c1 c2 c3 t a n ↔ OneP c0 c1 c2 c3 t a ∧ 0 ≤ n ∧ n ≤ 1099511627776 := by
 unfold Fits OneP
 omega

/-- How many tokens there are. -/
def LV (c0 c1 c2 c3 t a n : Int) : Int := if Fits c0 c1 c2 c3 t a n then lvl c1 c2 t a n else 0
theorem level_b (k : Nat) (c0 c1 c2 c3 t a n : Int) (hk : 2 ≤ k) : rollcallref16_Level.f k c0 c1 c2 c3 t a n = some (LV c0 c1 c2 c3 t a n) := by
 obtain ⟨k, rfl⟩ : ∃ m, k = m + 1 := ⟨k - 1, by omega⟩
 unfold rollcallref16_Level.f LV
 rw [one16_b, time_b]
 simp only [Option.bind_some, decide_eq_true_eq, rollcallref16_Level.j0]
 by_cases h : Fits c0 c1 c2 c3 t a n
 ·rw [if_pos h]
  have hf := h
  rw [fits_iff] at hf
  rw [if_pos hf.1, decide_eq_true hf.2]
  simp only [Bool.not_true, Bool.false_eq_true, if_false]
  unfold Fits at h
  unfold lvl tk mn
  by_cases hn : n ≤ a
  ·rw [if_pos hn]
   have : ¬ a < n := by omega
   simp only [this, if_false]
   congr 1
   simp only [Int.zero_mul, Int.add_zero]
   split <;> omega
  ·rw [if_neg hn]
   have hx : 0 ≤ (n - a) * c2 ∧ (n - a) * c2 ≤ 1099511627776 * 16 := ⟨Int.mul_nonneg (by omega) (by omega), Int.mul_le_mul (by omega) (by omega) (by omega) (by omega)⟩
   have w1 : wrap64 (n - a) = n - a := wrap64_in _ ⟨by omega, by omega⟩
   have w2 : wrap64 ((n - a) * c2) = (n - a) * c2 := wrap64_in _ ⟨by omega, by omega⟩
   have w3 : wrap64 (t + (n - a) * c2) = t + (n - a) * c2 := wrap64_in _ ⟨by omega, by omega⟩
   rw [w1, w2, w3, if_pos (show a < n by omega)]
   congr 1
   split <;> split <;> omega
 ·rw [if_neg h]
  rw [fits_iff] at h
  by_cases h1 : OneP c0 c1 c2 c3 t a
  ·rw [if_pos h1, decide_eq_false (fun h2 => h ⟨h1, h2⟩)]; simp
  ·rw [if_neg h1]; simp
/-! ### links -/
theorem andR (a b : Bool) (h : a = false) : (b && a) = false := by rw [h, Bool.and_false]
/-- Whether a link may be. -/
def mayK (c0 c1 c2 c3 s : Int) (q : List Ch) (lat : Bool) (t a : Int) (sn : Bool) (d : Int) : Bool :=
 decide (OneP c0 c1 c2 c3 t a) && (decide (0 ≤ s ∧ s ≤ 1099511627776) && (mayQ q lat c0 && (!lat && (decide (0 ≤ d ∧ d ≤ 1099511627776) && (!sn || decide (q.length = 0))))))
theorem refMayK (k : Nat) (c0 c1 c2 c3 s : Int) (q : List Ch) (lat : Bool) (t a : Int) (sn : Bool) (d : Int) (hq : q.length ≤ 40) (hk : 200 ≤ k) : rollcallref18_May.f k c0 c1 c2 c3 s q lat t a sn d = some (mayK c0 c1 c2 c3 s q lat t a sn d) := by
 unfold rollcallref18_May.f mayK
 rw [one16_b, time_b, refMay_b k q lat c0 (by omega) (by omega)]
 simp only [Option.bind_some, decide_eq_true_eq]
 by_cases h1 : OneP c0 c1 c2 c3 t a
 rotate_left
 ·rw [if_neg h1, decide_eq_false h1]; rfl
 rw [if_pos h1, decide_eq_true h1]
 by_cases h2 : s < 0
 ·rw [if_pos h2, decide_eq_false (by omega)]; rfl
 rw [if_neg h2]
 by_cases h3 : s > 1099511627776
 ·rw [if_pos h3, decide_eq_false (by omega)]; rfl
 rw [if_neg h3, decide_eq_true (show 0 ≤ s ∧ s ≤ 1099511627776 by omega)]
 cases mayQ q lat c0 with
 | false => rfl
 | true =>
  cases lat with
  | true => rfl
  | false =>
   by_cases h4 : 0 ≤ d ∧ d ≤ 1099511627776
   ·rw [if_pos h4, decide_eq_true h4]
    cases sn with
    | false => rfl
    | true =>
     simp only [if_pos, Bool.not_false, Bool.not_true, Bool.true_and, Bool.false_or, Option.some.injEq, Bool.false_eq_true, if_false]
     rw [Bool.eq_iff_iff]
     simp
   ·rw [if_neg h4, decide_eq_false h4]; rfl
theorem ltime_b (n : Int) : link_time.f n = some (decide (0 ≤ n ∧ n ≤ 1099511627776)) := by
 unfold link_time.f
 split
 all_goals (simp only [Option.some.injEq]; symm; first | (rw [decide_eq_decide]; omega) | (rw [decide_eq_false_iff_not]; omega))
theorem paceMay_b (c0 c1 c2 c3 : Int) : pace_May.f c0 c1 c2 c3 = some (decide (1 ≤ c0 ∧ c0 ≤ 16 ∧ 1 ≤ c1 ∧ c1 ≤ 64 ∧ 1 ≤ c2 ∧ c2 ≤ 16 ∧ 1 ≤ c3 ∧ c3 ≤ 1000)) := by
 unfold pace_May.f
 simp only [XPace.within_f, Option.bind_some, decide_eq_true_eq]
 repeat' split
 all_goals (simp only [Option.some.injEq]; symm; first | (rw [decide_eq_decide]; omega) | (rw [decide_eq_false_iff_not]; omega))
theorem linkMayK (k : Nat) (c0 c1 c2 c3 s : Int) (q : List Ch) (lat : Bool) (t a : Int) (sn : Bool) (d : Int) (hq : q.length ≤ 40) (hs : ∀ x ∈ q, x.f0.size ≤ 9223372036854775807) (hk : 200 ≤ k) : link_May.f k c0 c1 c2 c3 s q lat t a sn d = some (mayK c0 c1 c2 c3 s q lat t a sn d) := by
 obtain ⟨k, rfl⟩ : ∃ m, k = m + 2 := ⟨k - 2, by omega⟩
 have hQ : ∀ j, 100 ≤ j → queue_May.f j q lat c0 = some (mayQ q lat c0) := fun j hj => may_b j q lat c0 (by omega) hs (by omega)
 unfold link_May.f mayK
 rw [paceMay_b, ltime_b, ltime_b]
 simp only [Option.bind_some, decide_eq_true_eq]
 by_cases h1 : OneP c0 c1 c2 c3 t a
 ·have h1' := h1
  unfold OneP at h1'
  rw [if_pos h1'.1, if_neg (by omega), if_neg (by omega), if_pos (by omega), decide_eq_true h1]
  by_cases h4 : 0 ≤ d ∧ d ≤ 1099511627776
  ·rw [decide_eq_true h4]
   by_cases h2 : 0 ≤ s ∧ s ≤ 1099511627776
   ·rw [decide_eq_true h2]
    simp only [link_May.j0, Bool.not_true, Bool.false_eq_true, if_false, if_neg (show ¬ s < 0 by omega), if_neg (show ¬ s > 1099511627776 by omega), hQ (k + 1) (by omega), Option.bind_some]
    cases mayQ q lat c0 with
    | false => simp
    | true =>
     cases lat with
     | true => simp
     | false =>
      cases sn with
      | false => simp
      | true => simp; rw [Bool.eq_iff_iff]; simp
   ·rw [decide_eq_false h2]
    by_cases h3 : s < 0
    ·simp [link_May.j0, h3]
    ·have h5 : s > 1099511627776 := by omega
     simp [link_May.j0, h3, h5]
  ·rw [decide_eq_false h4]
   simp [link_May.j0]
 ·rw [decide_eq_false h1]
  have hj : ∀ j, link_May.j0 (j + 2) true c0 c1 c2 c3 s q lat t a sn d = some false := fun j => by simp [link_May.j0]
  split
  ·rename_i hc
   split
   ·rename_i h; rw [decide_eq_true h]; exact hj k
   ·split
    ·rename_i h; rw [decide_eq_true h]; exact hj k
    ·split
     ·rename_i h2 h3 h; exact absurd (show OneP c0 c1 c2 c3 t a by unfold OneP; omega) h1
     ·rename_i h; rw [decide_eq_false h]; exact hj k
  ·rename_i hc; rw [decide_eq_false hc]; exact hj k
theorem mayK_iff (c0 c1 c2 c3 s : Int) (q : List Ch) (lat : Bool) (t a : Int) (sn : Bool) (d : Int) : mayK c0 c1 c2 c3 s q lat t a sn d = true ↔ OneP c0 c1 c2 c3 t a ∧ (0 ≤ s ∧ s ≤ 1099511627776) ∧ mayQ q lat c0 = true ∧ lat = false ∧ (0 ≤ d ∧ d ≤ 1099511627776) ∧ (sn = true → q = []) := by
 unfold mayK
 simp only [Bool.and_eq_true, decide_eq_true_eq, Bool.not_eq_true', Bool.or_eq_true]
 constructor
 ·rintro ⟨h1, h2, h3, h4, h5, h6⟩
  exact ⟨h1, h2, h3, h4, h5, fun e => by
   subst e
   rcases h6 with h6 | h6
   ·cases h6
   ·exact List.length_eq_zero_iff.1 h6⟩
 ·rintro ⟨h1, h2, h3, h4, h5, h6⟩
  refine ⟨h1, h2, h3, h4, h5, ?_⟩
  cases sn with
  | false => exact .inl rfl
  | true => exact .inr (by rw [h6 rfl]; rfl)
end Go.Proofs.Ytmigglldahkngaa.XV17
end

section
/- The printed contracts of law18's functions, over Kn. -/
namespace Go.Proofs.Ytmigglldahkngaa.XKn
open Go.RowKit Go.Proofs.YtmigglldahkngaaW.PrintWords Go.Proofs.YtmigglldahkngaaW.PrintLast Go.Proofs.YtmigglldahkngaaW.PrintMore Go.Proofs.Ytmigglldahkngaa.PA Go.Proofs.Ytmigglldahkngaa.XMem Go.Proofs.Ytmigglldahkngaa.XSt
set_option linter.unusedVariables false
set_option linter.unusedSimpArgs false
theorem rollcallref18_Few.kn {w : World} (k : Nat) {a0_0 : Int} {A0_1 : Option Addr} {c0_1 : Nat} {l0_1 : List (S34)} {a0_2 : Bool} {a0_3 : Int} {a0_4 : Int} {a0_5 : Bool} {a0_6 : Int} {r : Bool} (h : rollcallref18_Few.f k a0_0 l0_1 a0_2 a0_3 a0_4 a0_5 a0_6 = some r) {Q1_ : Nat → Prop} (g1 : (V k34 (.slice A0_1 l0_1.length c0_1) l0_1).P w Q1_) :
  Calls Try.prog 9 #[.agg #[.int .i64 a0_0, .slice A0_1 l0_1.length c0_1, .bool a0_2, .int .i64 a0_3, .int .i64 a0_4, .bool a0_5, .int .i64 a0_6]] w fun e w' => e = .returned (.bool r) ∧ Below w.heap.size w w' := by
 refine (rollcallref18_Few.calls k a0_0 A0_1 c0_1 l0_1 a0_2 a0_3 a0_4 a0_5 a0_6 r w (Kd.V_reads' (e := 0) (base := 0) g1).2.2 (Kd.V_reads' (e := 0) (base := 0) g1).2.1 h).mono ?_
 rintro e w' ⟨y0, y1⟩
 exact ⟨y0, y1⟩
theorem link_New.kn {w : World} {a0_0 : Int} {a0_1 : Int} {a0_2 : Int} {a0_3 : Int} {a1 : Int} {r1 : Int} {r2 : List (S34)} {r3 : Bool} {r4 : Int} {r5 : Int} {r6 : Bool} {r7 : Int} {r8 : Int} (h : link_New.f a0_0 a0_1 a0_2 a0_3 a1 = some (r1, r2, r3, r4, r5, r6, r7, r8))  :
  Calls Try.prog 12 #[.agg #[.int .i64 a0_0, .int .i64 a0_1, .int .i64 a0_2, .int .i64 a0_3], .int .i64 a1] w fun e w' => ∃ (Av1_ : Option Addr) (cv1_ : Nat), e = .returned (.tuple #[.agg #[.int .i64 r1, (.slice Av1_ r2.length cv1_), .bool r3, .int .i64 r4, .int .i64 r5, .bool r6, .int .i64 r7], .int .i64 r8]) ∧ (V k34 (.slice Av1_ r2.length cv1_) r2).P w' (fun k => w.heap.size ≤ k) ∧ Below w.heap.size w w' := by
 refine (link_New.calls a0_0 a0_1 a0_2 a0_3 a1 r1 r2 r3 r4 r5 r6 r7 r8 w h).mono ?_
 rintro e w' ⟨v1_, y0, y1, y2⟩
 have z1 := R_new y1
 obtain ⟨Av1_, cv1_, rfl⟩ := Kd.V_slice (e := 0) (base := 0) z1
 exact ⟨Av1_, cv1_, y0, z1, y2⟩
theorem rollcallref18_Same.kn {w : World} (k : Nat) {a0_0 : Int} {A0_1 : Option Addr} {c0_1 : Nat} {l0_1 : List (S34)} {a0_2 : Bool} {a0_3 : Int} {a0_4 : Int} {a0_5 : Bool} {a0_6 : Int} {a1_0 : Int} {A1_1 : Option Addr} {c1_1 : Nat} {l1_1 : List (S34)} {a1_2 : Bool} {a1_3 : Int} {a1_4 : Int} {a1_5 : Bool} {a1_6 : Int} {r : Bool} (h : rollcallref18_Same.f k a0_0 l0_1 a0_2 a0_3 a0_4 a0_5 a0_6 a1_0 l1_1 a1_2 a1_3 a1_4 a1_5 a1_6 = some r) {Q1_ : Nat → Prop} {Q2_ : Nat → Prop} (g1 : (V k34 (.slice A0_1 l0_1.length c0_1) l0_1).P w Q1_) (g2 : (V k34 (.slice A1_1 l1_1.length c1_1) l1_1).P w Q2_) :
  Calls Try.prog 14 #[.agg #[.int .i64 a0_0, .slice A0_1 l0_1.length c0_1, .bool a0_2, .int .i64 a0_3, .int .i64 a0_4, .bool a0_5, .int .i64 a0_6], .agg #[.int .i64 a1_0, .slice A1_1 l1_1.length c1_1, .bool a1_2, .int .i64 a1_3, .int .i64 a1_4, .bool a1_5, .int .i64 a1_6]] w fun e w' => e = .returned (.bool r) ∧ Below w.heap.size w w' := by
 refine (rollcallref18_Same.calls k a0_0 A0_1 c0_1 l0_1 a0_2 a0_3 a0_4 a0_5 a0_6 a1_0 A1_1 c1_1 l1_1 a1_2 a1_3 a1_4 a1_5 a1_6 r w (Kd.V_reads' (e := 0) (base := 0) g1).2.2 (Kd.V_reads' (e := 0) (base := 0) g1).2.1 (Kd.V_reads' (e := 0) (base := 0) g2).2.2 (Kd.V_reads' (e := 0) (base := 0) g2).2.1 h).mono ?_
 rintro e w' ⟨y0, y1⟩
 exact ⟨y0, y1⟩
theorem link_May.kn {w : World} (k : Nat) {a0_0 : Int} {a0_1 : Int} {a0_2 : Int} {a0_3 : Int} {a1_0 : Int} {A1_1 : Option Addr} {c1_1 : Nat} {l1_1 : List (S34)} {a1_2 : Bool} {a1_3 : Int} {a1_4 : Int} {a1_5 : Bool} {a1_6 : Int} {r : Bool} (h : link_May.f k a0_0 a0_1 a0_2 a0_3 a1_0 l1_1 a1_2 a1_3 a1_4 a1_5 a1_6 = some r) {Q1_ : Nat → Prop} (g1 : (V k34 (.slice A1_1 l1_1.length c1_1) l1_1).P w Q1_) :
  Calls Try.prog 15 #[.agg #[.int .i64 a0_0, .int .i64 a0_1, .int .i64 a0_2, .int .i64 a0_3], .agg #[.int .i64 a1_0, .slice A1_1 l1_1.length c1_1, .bool a1_2, .int .i64 a1_3, .int .i64 a1_4, .bool a1_5, .int .i64 a1_6]] w fun e w' => e = .returned (.bool r) ∧ Below w.heap.size w w' := by
 refine (link_May.calls k a0_0 a0_1 a0_2 a0_3 a1_0 A1_1 c1_1 l1_1 a1_2 a1_3 a1_4 a1_5 a1_6 r w (Kd.V_reads' (e := 0) (base := 0) g1).2.2 (Kd.V_reads' (e := 0) (base := 0) g1).2.1 h).mono ?_
 rintro e w' ⟨y0, y1⟩
 exact ⟨y0, y1⟩
theorem rollcallref18_May.kn {w : World} (k : Nat) {a0_0 : Int} {a0_1 : Int} {a0_2 : Int} {a0_3 : Int} {a1_0 : Int} {A1_1 : Option Addr} {c1_1 : Nat} {l1_1 : List (S34)} {a1_2 : Bool} {a1_3 : Int} {a1_4 : Int} {a1_5 : Bool} {a1_6 : Int} {r : Bool} (h : rollcallref18_May.f k a0_0 a0_1 a0_2 a0_3 a1_0 l1_1 a1_2 a1_3 a1_4 a1_5 a1_6 = some r) {Q1_ : Nat → Prop} (g1 : (V k34 (.slice A1_1 l1_1.length c1_1) l1_1).P w Q1_) :
  Calls Try.prog 16 #[.agg #[.int .i64 a0_0, .int .i64 a0_1, .int .i64 a0_2, .int .i64 a0_3], .agg #[.int .i64 a1_0, .slice A1_1 l1_1.length c1_1, .bool a1_2, .int .i64 a1_3, .int .i64 a1_4, .bool a1_5, .int .i64 a1_6]] w fun e w' => e = .returned (.bool r) ∧ Below w.heap.size w w' := by
 refine (rollcallref18_May.calls k a0_0 a0_1 a0_2 a0_3 a1_0 A1_1 c1_1 l1_1 a1_2 a1_3 a1_4 a1_5 a1_6 r w (Kd.V_reads' (e := 0) (base := 0) g1).2.2 (Kd.V_reads' (e := 0) (base := 0) g1).2.1 h).mono ?_
 rintro e w' ⟨y0, y1⟩
 exact ⟨y0, y1⟩
theorem link_Quiet.kn {w : World} {a0_0 : Int} {A0_1 : Option Addr} {c0_1 : Nat} {l0_1 : List (S34)} {a0_2 : Bool} {a0_3 : Int} {a0_4 : Int} {a0_5 : Bool} {a0_6 : Int} {r : Bool} (h : link_Quiet.f a0_0 l0_1 a0_2 a0_3 a0_4 a0_5 a0_6 = some r) {Q1_ : Nat → Prop} (g1 : (V k34 (.slice A0_1 l0_1.length c0_1) l0_1).P w Q1_) :
  Calls Try.prog 17 #[.agg #[.int .i64 a0_0, .slice A0_1 l0_1.length c0_1, .bool a0_2, .int .i64 a0_3, .int .i64 a0_4, .bool a0_5, .int .i64 a0_6]] w fun e w' => e = .returned (.bool r) ∧ Below w.heap.size w w' := by
 refine (link_Quiet.calls a0_0 A0_1 c0_1 l0_1 a0_2 a0_3 a0_4 a0_5 a0_6 r w (Kd.V_reads' (e := 0) (base := 0) g1).2.2 (Kd.V_reads' (e := 0) (base := 0) g1).2.1 h).mono ?_
 rintro e w' ⟨y0, y1⟩
 exact ⟨y0, y1⟩
theorem link_Ask.kn {w : World} {a0_0 : Int} {A0_1 : Option Addr} {c0_1 : Nat} {l0_1 : List (S34)} {a0_2 : Bool} {a0_3 : Int} {a0_4 : Int} {a0_5 : Bool} {a0_6 : Int} {r1 : Int} {r2 : List (S34)} {r3 : Bool} {r4 : Int} {r5 : Int} {r6 : Bool} {r7 : Int} (h : link_Ask.f a0_0 l0_1 a0_2 a0_3 a0_4 a0_5 a0_6 = some (r1, r2, r3, r4, r5, r6, r7)) {Q1_ : Nat → Prop} (g1 : (V k34 (.slice A0_1 l0_1.length c0_1) l0_1).P w Q1_) :
  Calls Try.prog 21 #[.agg #[.int .i64 a0_0, .slice A0_1 l0_1.length c0_1, .bool a0_2, .int .i64 a0_3, .int .i64 a0_4, .bool a0_5, .int .i64 a0_6]] w fun e w' => ∃ (Av1_ : Option Addr) (cv1_ : Nat), e = .returned (.agg #[.int .i64 r1, (.slice Av1_ r2.length cv1_), .bool r3, .int .i64 r4, .int .i64 r5, .bool r6, .int .i64 r7]) ∧ (V k34 (.slice Av1_ r2.length cv1_) r2).P w' (fun k => w.heap.size ≤ k) ∧ Below w.heap.size w w' := by
 refine (link_Ask.calls a0_0 A0_1 c0_1 l0_1 a0_2 a0_3 a0_4 a0_5 a0_6 r1 r2 r3 r4 r5 r6 r7 w (Kd.V_reads' (e := 0) (base := 0) g1).2.2 (Kd.V_reads' (e := 0) (base := 0) g1).2.1 h).mono ?_
 rintro e w' ⟨v1_, y0, y1, y2⟩
 have z1 := R_new y1
 obtain ⟨Av1_, cv1_, rfl⟩ := Kd.V_slice (e := 0) (base := 0) z1
 exact ⟨Av1_, cv1_, y0, z1, y2⟩
theorem rollcallref05_Few.kn {w : World} (k : Nat) {A0 : Option Addr} {c0 : Nat} {l0 : List (S72)} {r : Bool} (h : rollcallref05_Few.f k l0 = some r) {Q1_ : Nat → Prop} (g1 : (V k72 (.slice A0 l0.length c0) l0).P w Q1_) :
  Calls Try.prog 23 #[.slice A0 l0.length c0] w fun e w' => e = .returned (.bool r) ∧ Below w.heap.size w w' := by
 refine (rollcallref05_Few.calls k A0 c0 l0 r w (Kd.V_reads' (e := 0) (base := 0) g1).2.2 (Kd.V_reads' (e := 0) (base := 0) g1).2.1 h).mono ?_
 rintro e w' ⟨y0, y1⟩
 exact ⟨y0, y1.below⟩
theorem rollcallref05_May.kn {w : World} (k : Nat) {A0 : Option Addr} {c0 : Nat} {l0 : List (S72)} {r : Bool} (h : rollcallref05_May.f k l0 = some r) {Q1_ : Nat → Prop} (g1 : (V k72 (.slice A0 l0.length c0) l0).P w Q1_) :
  Calls Try.prog 27 #[.slice A0 l0.length c0] w fun e w' => e = .returned (.bool r) ∧ Below w.heap.size w w' := by
 refine (rollcallref05_May.calls k A0 c0 l0 r w (Kd.V_reads' (e := 0) (base := 0) g1).2.2 (Kd.V_reads' (e := 0) (base := 0) g1).2.1 h).mono ?_
 rintro e w' ⟨y0, y1⟩
 exact ⟨y0, y1⟩
theorem rollcallref16_Time.kn {w : World} {a0 : Int} {r : Bool} (h : rollcallref16_Time.f a0 = some r)  :
  Calls Try.prog 28 #[.int .i64 a0] w fun e w' => e = .returned (.bool r) ∧ Below w.heap.size w w' := by
 refine (rollcallref16_Time.calls a0 r w h).mono ?_
 rintro e w' ⟨y0, y1⟩
 exact ⟨y0, y1.below⟩
theorem rollcallref16_Level.kn {w : World} (k : Nat) {a0_0 : Int} {a0_1 : Int} {a0_2 : Int} {a0_3 : Int} {a1_0 : Int} {a1_1 : Int} {a2 : Int} {r : Int} (h : rollcallref16_Level.f k a0_0 a0_1 a0_2 a0_3 a1_0 a1_1 a2 = some r)  :
  Calls Try.prog 29 #[.agg #[.int .i64 a0_0, .int .i64 a0_1, .int .i64 a0_2, .int .i64 a0_3], .agg #[.int .i64 a1_0, .int .i64 a1_1], .int .i64 a2] w fun e w' => e = .returned (.int .i64 r) ∧ Below w.heap.size w w' := by
 refine (rollcallref16_Level.calls k a0_0 a0_1 a0_2 a0_3 a1_0 a1_1 a2 r w h).mono ?_
 rintro e w' ⟨y0, y1⟩
 exact ⟨y0, y1⟩
end Go.Proofs.Ytmigglldahkngaa.XKn
end

section
/- rollcallref18's Emit, walked: what any link tells next. -/
namespace Go.Proofs.Ytmigglldahkngaa.XTell
open Go.RowKit Go.Proofs.YtmigglldahkngaaW.PrintWords Go.Proofs.YtmigglldahkngaaW.PrintLast Go.Proofs.YtmigglldahkngaaW.PrintMore Go.Proofs.Ytmigglldahkngaa.PA Go.Proofs.Ytmigglldahkngaa.XMem Go.Proofs.Ytmigglldahkngaa.XSum Go.Proofs.Ytmigglldahkngaa.XSt Go.Proofs.Ytmigglldahkngaa.XKn
open Go.Proofs.Ytmigglldahkngaa.XPace (TK)
open Go.Proofs.Ytmigglldahkngaa.XV17 (mayT)
set_option linter.unusedVariables false
set_option linter.unusedSimpArgs false
set_option maxRecDepth 100000
abbrev TLk : TypeId := 30
abbrev TFr : TypeId := 60
abbrev TCh : TypeId := 34
end Go.Proofs.Ytmigglldahkngaa.XTell
end
