-- Written by a program of this session (wip/tools/xprint.py), which drives the kit's print.
import Derived.Test.YthcmelchgnekpaaPAx0
import Derived.Test.YthcmelchgnekpaaPAx2
import Derived.Test.YthcmelchgnekpaaPAx4
namespace Go.Proofs.Ythcmelchgnekpaa.PA
open Go.RowKit Go.Proofs.YthcmelchgnekpaaW.PrintWords Go.Proofs.YthcmelchgnekpaaW.PrintLast Go.Proofs.YthcmelchgnekpaaW.PrintMore
attribute [local go_sem] max2_int min2_int max_two min_two max_three min_three max_four min_four   -- for this text's walks alone
set_option linter.unusedVariables false
set_option linter.unusedSimpArgs false

attribute [local go_sem high] eqA33
/-! ### queue_Pop: function 15 -/
def queue_Pop.f (l0_0 : List (S33)) (a0_1 : Bool) : Option (ByteArray × Bool × Int × Int × Int × ByteArray × (List (S33)) × Bool × Bool) := if (l0_0.length : Int) = 0 then (some ((⟨#[]⟩ : ByteArray), false, 0, 0, 0, (⟨#[]⟩ : ByteArray), l0_0, a0_1, false)) else (if 0 < (l0_0.length : Int) then (if 1 ≤ (l0_0.length : Int) then (some ((rd_T33 l0_0 0).f0, (rd_T33 l0_0 0).f1, (rd_T33 l0_0 0).f2.f0, (rd_T33 l0_0 0).f2.f1, (rd_T33 l0_0 0).f2.f2, (rd_T33 l0_0 0).f2.f3, (l0_0.drop 1), a0_1, true)) else (none)) else (none))
set_option maxHeartbeats 8000000 in
set_option maxRecDepth 100000 in
theorem queue_Pop.calls (P0_0_ : Nat → Prop) (A0_0 : Option Addr) (c0_0 : Nat) (l0_0 : List (S33)) (a0_1 : Bool) (r1 : ByteArray) (r2 : Bool) (r3 : Int) (r4 : Int) (r5 : Int) (r6 : ByteArray) (r7 : List (S33)) (r8 : Bool) (r9 : Bool) (w : World) (hs0_0 : Kd.V k33 33 w w.heap.size (fun k_ => P0_0_ k_) (.slice A0_0 l0_0.length c0_0) l0_0) (h : queue_Pop.f l0_0 a0_1 = some (r1, r2, r3, r4, r5, r6, r7, r8, r9)) :
    Calls Try.prog 15 #[.agg #[.slice A0_0 l0_0.length c0_0, .bool a0_1]] w fun e w' => ∃ v6_ : Value, e = .returned (.tuple #[.agg #[.string r1, .bool r2, .int .i64 r3, .int .i64 r4, .int .i64 r5, .string r6], .agg #[v6_, .bool r8], .bool r9]) ∧ Kd.V k33 33 w' w.heap.size (fun k_ => (P0_0_ k_ ∨ w.heap.size ≤ k_)) v6_ r7 ∧ Below w.heap.size w w' := by
  have hu24 := Try.underlying24
  have hu33 := Try.underlying33
  have HO0_0 := Aside0.mk (show Kd.V k33 33 w w.heap.size (fun k_ => (P0_0_ k_ ∨ w.heap.size ≤ k_)) (.slice A0_0 l0_0.length c0_0) l0_0 from Kd.V_mono hs0_0 (fun k_ hk => .inl hk))
  have HB := Aside0.mk (Below.refl w.heap.size w)
  have H : (if (l0_0.length : Int) = 0 then (some ((⟨#[]⟩ : ByteArray), false, 0, 0, 0, (⟨#[]⟩ : ByteArray), l0_0, a0_1, false)) else (if 0 < (l0_0.length : Int) then (if 1 ≤ (l0_0.length : Int) then (some ((rd_T33 l0_0 0).f0, (rd_T33 l0_0 0).f1, (rd_T33 l0_0 0).f2.f0, (rd_T33 l0_0 0).f2.f1, (rd_T33 l0_0 0).f2.f2, (rd_T33 l0_0 0).f2.f3, (l0_0.drop 1), a0_1, true)) else (none)) else (none))) = some (r1, r2, r3, r4, r5, r6, r7, r8, r9) := h
  clear h
  by_cases c2 : (l0_0.length : Int) = 0
  · rw [if_pos c2] at H
    have c2b0 : ((l0_0.length : Int) == 0) = true := beq_iff_eq.mpr c2
    have c2b1 : ((l0_0.length : Int) != 0) = false := bne_eq_false_iff_eq.mpr c2
    clear c2
    simp only [Option.some.injEq, Prod.mk.injEq] at H
    obtain ⟨rfl, rfl, rfl, rfl, rfl, rfl, rfl, rfl, rfl⟩ := H
    go_enter Try.func15, Try.ntmps15
    try go_wp2_with (first | ((with_reducible refine gate_dst (N := 1) rfl ?_); refine box_event ?hg (N := 1) ?hd (cs := #[.slice A0_0 l0_0.length c0_0, .bool a0_1]) (t := 24) ?hr ?_; (case hd => rfl); (case hg => rfl); (case hr => first | (go_simp; done) | (go_simp; rfl)); intro gb118 hg w3 hbox hb; replace HO0_0 := Aside0.mk (Kd.V_below (Kd.V_elderB (vS HO0_0.out) gb118 (Nat.le_of_eq hg.symm)) hb); have BK118 := Aside0.mk (hbox); have GW118 := Aside0.mk ((by rw [hg]; exact (below_size (hS HB.out)) : w.heap.size ≤ gb118)); have GE118 := Aside0.mk ((by rw [hg]; exact (below_size (hS HB.out)) : w.heap.size ≤ gb118)); replace HB := Aside0.mk (below_step (hS HB.out) hb); clear hb hbox hg) | ((with_reducible refine gate_dst (N := 2) rfl ?_); refine box_event ?hg (N := 2) ?hd (cs := #[.string (⟨#[]⟩ : ByteArray), .bool false, .int .i64 0, .int .i64 0, .int .i64 0, .string (⟨#[]⟩ : ByteArray)]) (t := 33) ?hr ?_; (case hd => rfl); (case hg => rfl); (case hr => first | (go_simp; done) | (go_simp; rfl)); intro gb119 hg w4 hbox hb; replace HO0_0 := Aside0.mk (Kd.V_below (Kd.V_elderB (vS HO0_0.out) gb119 (Nat.le_of_eq hg.symm)) hb); have BK119 := Aside0.mk (hbox); have GW119 := Aside0.mk ((by rw [hg]; exact (below_size (hS HB.out)) : w.heap.size ≤ gb119)); have GE119 := Aside0.mk ((by rw [hg]; exact (below_size (hS HB.out)) : w.heap.size ≤ gb119)); replace HB := Aside0.mk (below_step (hS HB.out) hb); have NB118_119 := Aside0.mk ((by rw [hg]; exact Nat.ne_of_lt (blk_lt (bS BK118.out)) : gb118 ≠ gb119)); have NB119_118 := Aside0.mk ((by rw [hg]; exact Nat.ne_of_gt (blk_lt (bS BK118.out)) : gb119 ≠ gb118)); replace BK118 := Aside0.mk (blk_below (bS BK118.out) hb); clear hb hbox hg) | ((with_reducible refine gate_dst (N := 3) rfl ?_); refine box_event ?hg (N := 3) ?hd (cs := #[.slice none 0 0, .bool false]) (t := 24) ?hr ?_; (case hd => rfl); (case hg => rfl); (case hr => first | (go_simp; done) | (go_simp; rfl)); intro gb120 hg w5 hbox hb; replace HO0_0 := Aside0.mk (Kd.V_below (Kd.V_elderB (vS HO0_0.out) gb120 (Nat.le_of_eq hg.symm)) hb); have BK120 := Aside0.mk (hbox); have GW120 := Aside0.mk ((by rw [hg]; exact (below_size (hS HB.out)) : w.heap.size ≤ gb120)); have GE120 := Aside0.mk ((by rw [hg]; exact (below_size (hS HB.out)) : w.heap.size ≤ gb120)); replace HB := Aside0.mk (below_step (hS HB.out) hb); have NB118_120 := Aside0.mk ((by rw [hg]; exact Nat.ne_of_lt (blk_lt (bS BK118.out)) : gb118 ≠ gb120)); have NB120_118 := Aside0.mk ((by rw [hg]; exact Nat.ne_of_gt (blk_lt (bS BK118.out)) : gb120 ≠ gb118)); replace BK118 := Aside0.mk (blk_below (bS BK118.out) hb); have NB119_120 := Aside0.mk ((by rw [hg]; exact Nat.ne_of_lt (blk_lt (bS BK119.out)) : gb119 ≠ gb120)); have NB120_119 := Aside0.mk ((by rw [hg]; exact Nat.ne_of_gt (blk_lt (bS BK119.out)) : gb120 ≠ gb119)); replace BK119 := Aside0.mk (blk_below (bS BK119.out) hb); clear hb hbox hg; have hnb6 := NB118_119.out; have hnc6 := NB119_118.out; have hnb7 := NB118_120.out; have hnc7 := NB120_118.out; have hcz8_0 : w5.cell? ⟨gb118, 0, none⟩ = some (.slice A0_0 l0_0.length c0_0) := (blk_cell BK118.out 0).trans rfl; have hcz8_1 : w5.cell? ⟨gb118, 1, none⟩ = some (.bool a0_1) := (blk_cell BK118.out 1).trans rfl; have hfz8_0 := blk_frozen BK118.out 0; have hfz8_1 := blk_frozen BK118.out 1))
    replace HO0_0 := Aside0.mk (Kd.V_drew HO0_0.out)
    replace BK118 := Aside0.mk (blk_drew BK118.out)
    replace BK119 := Aside0.mk (blk_drew BK119.out)
    replace BK120 := Aside0.mk (blk_drew BK120.out)
    replace HB := Aside0.mk (below_drew1 HB.out)
    refine start_ (n := 5) (S := fun w' => w'.cell? ⟨gb118, 0, none⟩ = some (.slice A0_0 l0_0.length c0_0) ∧ w'.cell? ⟨gb118, 1, none⟩ = some (.bool a0_1)) (ds := []) #[false, false, false, false, false] (by kernel_rfl) rfl rfl ⟨(blk_cell BK118.out 0).trans rfl, (blk_cell BK118.out 1).trans rfl⟩ (fun hHeld => ?_)
    generalize w5.drew = w9 at HO0_0 BK118 BK119 BK120 HB hHeld ⊢
    refine pure_ (i := 0) (N := some 10) (v := ?_) (a' := ?_) #[true, false, false, false, false] rfl rfl (by kernel_rfl) (fun _ _ _ h => h) (Or.inl ⟨by rfl, ?_⟩) ?_ ?_
    rotate_left
    · intro w'
      go_simp
      with_reducible rfl
    rotate_left
    · simp only [Act.put, List.setIfInBounds_toArray, List.set_cons_zero, List.set_cons_succ, i64_w, i32_w]
      rfl
    refine take_ (i := 1) (N := some 11) (v := ?_) (a' := ?_) #[true, true, false, false, false] rfl rfl (by kernel_rfl) (fun _ _ _ h => h) (Or.inl ⟨by rfl, ?_⟩) hHeld ?_ ?_
    rotate_left
    · rintro w' ⟨s0, s1⟩
      go_simp
      with_reducible rfl
    rotate_left
    · simp only [Act.put, List.setIfInBounds_toArray, List.set_cons_zero, List.set_cons_succ, i64_w, i32_w]
      rfl
    refine one_ (i := 2) (N := none) #[true, true, true, false, false] rfl rfl (by kernel_rfl) (by decide) (fun K hK => ?_)
    have hs10 : w9.cell? ⟨gb119, 0, none⟩ = some (.string (⟨#[]⟩ : ByteArray)) := (blk_cell BK119.out 0).trans rfl
    have hfs10 := blk_frozen BK119.out 0
    have hns10_0 := NB118_119.out
    have hns10_2 := NB120_119.out
    have hms10_0 := NB119_118.out
    have hms10_2 := NB119_120.out
    have hs11 : w9.cell? ⟨gb119, 1, none⟩ = some (.bool false) := (blk_cell BK119.out 1).trans rfl
    have hfs11 := blk_frozen BK119.out 1
    have hns11_0 := NB118_119.out
    have hns11_2 := NB120_119.out
    have hms11_0 := NB119_118.out
    have hms11_2 := NB119_120.out
    have hs12 : w9.cell? ⟨gb119, 2, none⟩ = some (.int .i64 0) := (blk_cell BK119.out 2).trans rfl
    have hfs12 := blk_frozen BK119.out 2
    have hns12_0 := NB118_119.out
    have hns12_2 := NB120_119.out
    have hms12_0 := NB119_118.out
    have hms12_2 := NB119_120.out
    have hs13 : w9.cell? ⟨gb119, 3, none⟩ = some (.int .i64 0) := (blk_cell BK119.out 3).trans rfl
    have hfs13 := blk_frozen BK119.out 3
    have hns13_0 := NB118_119.out
    have hns13_2 := NB120_119.out
    have hms13_0 := NB119_118.out
    have hms13_2 := NB119_120.out
    have hs14 : w9.cell? ⟨gb119, 4, none⟩ = some (.int .i64 0) := (blk_cell BK119.out 4).trans rfl
    have hfs14 := blk_frozen BK119.out 4
    have hns14_0 := NB118_119.out
    have hns14_2 := NB120_119.out
    have hms14_0 := NB119_118.out
    have hms14_2 := NB119_120.out
    have hs15 : w9.cell? ⟨gb119, 5, none⟩ = some (.string (⟨#[]⟩ : ByteArray)) := (blk_cell BK119.out 5).trans rfl
    have hfs15 := blk_frozen BK119.out 5
    have hns15_0 := NB118_119.out
    have hns15_2 := NB120_119.out
    have hms15_0 := NB119_118.out
    have hms15_2 := NB119_120.out
    refine skip_ (w1 := ?_) (by rfl) rfl ?_ ?_
    rotate_left
    · go_simp
      rfl
    refine hK.out _ _ ⟨((cell_far (p := ⟨gb119, _, none⟩) NB118_119.out _).trans (((cell_far (p := ⟨gb119, _, none⟩) NB118_119.out _).trans (((cell_far (p := ⟨gb119, _, none⟩) NB118_119.out _).trans (((cell_far (p := ⟨gb119, _, none⟩) NB118_119.out _).trans (((cell_far (p := ⟨gb119, _, none⟩) NB118_119.out _).trans (((cell_far (p := ⟨gb119, _, none⟩) NB118_119.out _).trans (hHeld.1)))))))))))), ((cell_far (p := ⟨gb119, _, none⟩) NB118_119.out _).trans (((cell_far (p := ⟨gb119, _, none⟩) NB118_119.out _).trans (((cell_far (p := ⟨gb119, _, none⟩) NB118_119.out _).trans (((cell_far (p := ⟨gb119, _, none⟩) NB118_119.out _).trans (((cell_far (p := ⟨gb119, _, none⟩) NB118_119.out _).trans (((cell_far (p := ⟨gb119, _, none⟩) NB118_119.out _).trans (hHeld.2))))))))))))⟩ (fun hHeld => ?_)
    clear hK K
    clear hs10 hfs10 hns10_0 hns10_2 hms10_0 hms10_2 hs11 hfs11 hns11_0 hns11_2 hms11_0 hms11_2 hs12 hfs12 hns12_0 hns12_2 hms12_0 hms12_2 hs13 hfs13 hns13_0 hns13_2 hms13_0 hms13_2 hs14 hfs14 hns14_0 hns14_2 hms14_0 hms14_2 hs15 hfs15 hns15_0 hns15_2 hms15_0 hms15_2
    generalize hq_ : ((((((w9.setCell ⟨gb119, 0, none⟩ (.string (⟨#[]⟩ : ByteArray))).setCell ⟨gb119, 1, none⟩ (.bool false)).setCell ⟨gb119, 2, none⟩ (.int .i64 0)).setCell ⟨gb119, 3, none⟩ (.int .i64 0)).setCell ⟨gb119, 4, none⟩ (.int .i64 0)).setCell ⟨gb119, 5, none⟩ (.string (⟨#[]⟩ : ByteArray))) = w9_c at hHeld ⊢
    have z_ := @id (((((((w9.setCell ⟨gb119, 0, none⟩ (.string (⟨#[]⟩ : ByteArray))).setCell ⟨gb119, 1, none⟩ (.bool false)).setCell ⟨gb119, 2, none⟩ (.int .i64 0)).setCell ⟨gb119, 3, none⟩ (.int .i64 0)).setCell ⟨gb119, 4, none⟩ (.int .i64 0)).setCell ⟨gb119, 5, none⟩ (.string (⟨#[]⟩ : ByteArray))).heap[gb119]? = some _) (bS (blk_put (bS (blk_put (bS (blk_put (bS (blk_put (bS (blk_put (bS (blk_put (bS BK119.out) 0 _ rfl)) 1 _ rfl)) 2 _ rfl)) 3 _ rfl)) 4 _ rfl)) 5 _ rfl)); rw [hq_] at z_; replace BK119 := Aside0.mk z_; clear z_
    have z_ := @id (((((((w9.setCell ⟨gb119, 0, none⟩ (.string (⟨#[]⟩ : ByteArray))).setCell ⟨gb119, 1, none⟩ (.bool false)).setCell ⟨gb119, 2, none⟩ (.int .i64 0)).setCell ⟨gb119, 3, none⟩ (.int .i64 0)).setCell ⟨gb119, 4, none⟩ (.int .i64 0)).setCell ⟨gb119, 5, none⟩ (.string (⟨#[]⟩ : ByteArray))).heap[gb120]? = some _) (bF BK120.out NB120_119.out); rw [hq_] at z_; replace BK120 := Aside0.mk z_; clear z_
    have z_ := @id (Kd.V _ _ ((((((w9.setCell ⟨gb119, 0, none⟩ (.string (⟨#[]⟩ : ByteArray))).setCell ⟨gb119, 1, none⟩ (.bool false)).setCell ⟨gb119, 2, none⟩ (.int .i64 0)).setCell ⟨gb119, 3, none⟩ (.int .i64 0)).setCell ⟨gb119, 4, none⟩ (.int .i64 0)).setCell ⟨gb119, 5, none⟩ (.string (⟨#[]⟩ : ByteArray))) _ _ _ _) (vF (b := gb119) (Kd.V_mono HO0_0.out (fun k_ hk => (⟨hk, hk.1.2⟩ : _ ∧ k_ ≠ gb119))) (fun _ hk => hk.2)); rw [hq_] at z_; replace HO0_0 := Aside0.mk z_; clear z_
    replace HB : Aside0 (Below w.heap.size w w9_c) := ⟨by rw [← hq_]; exact (by repeat (first | (with_reducible first | exact HB.out | apply below_alloc | apply pw_below_drewN | apply below_drew1 | refine below_set ?_ GE118.out | refine below_set ?_ GE119.out | refine below_set ?_ GE120.out) | exact HB.out))⟩
    clear hq_
    refine one_ (i := 3) (N := none) #[true, true, true, true, false] rfl rfl (by kernel_rfl) (by decide) (fun K hK => ?_)
    have hs16 : w9_c.cell? ⟨gb120, 0, none⟩ = some (.slice none 0 0) := (blk_cell BK120.out 0).trans rfl
    have hfs16 := blk_frozen BK120.out 0
    have hns16_0 := NB118_120.out
    have hns16_1 := NB119_120.out
    have hms16_0 := NB120_118.out
    have hms16_1 := NB120_119.out
    have hs17 : w9_c.cell? ⟨gb120, 1, none⟩ = some (.bool false) := (blk_cell BK120.out 1).trans rfl
    have hfs17 := blk_frozen BK120.out 1
    have hns17_0 := NB118_120.out
    have hns17_1 := NB119_120.out
    have hms17_0 := NB120_118.out
    have hms17_1 := NB120_119.out
    refine skip_ (w1 := ?_) (by rfl) rfl ?_ ?_
    rotate_left
    · go_simp
      rfl
    refine hK.out _ _ ⟨((cell_far (p := ⟨gb120, _, none⟩) NB118_120.out _).trans (((cell_far (p := ⟨gb120, _, none⟩) NB118_120.out _).trans (hHeld.1)))), ((cell_far (p := ⟨gb120, _, none⟩) NB118_120.out _).trans (((cell_far (p := ⟨gb120, _, none⟩) NB118_120.out _).trans (hHeld.2))))⟩ (fun hHeld => ?_)
    clear hK K
    refine pure_ (i := 4) (N := some 4) (v := ?_) (a' := ?_) #[true, true, true, true, true] rfl rfl (by kernel_rfl) (fun _ _ _ h => h) (Or.inl ⟨by rfl, ?_⟩) ?_ ?_
    rotate_left
    · intro w'
      go_simp
      with_reducible rfl
    rotate_left
    · simp only [Act.put, List.setIfInBounds_toArray, List.set_cons_zero, List.set_cons_succ, i64_w, i32_w]
      rfl
    refine done_ (by kernel_rfl) ?_
    try go_wp2
    refine bodyPost_ret (results_list (rs := [.cell 2 33, .cell 3 24, .tmp 4]) rfl (by simp) (.cell gb119 33 #[.string (⟨#[]⟩ : ByteArray), .bool false, .int .i64 0, .int .i64 0, .int .i64 0, .string (⟨#[]⟩ : ByteArray)] (0, 0) _ rfl (bF BK119.out NB119_120.out) Try.underlying33 rfl (by kernel_rfl) (.cell gb120 24 #[.slice A0_0 l0_0.length c0_0, .bool a0_1] (0, 0) _ rfl (bS (blk_put (bS (blk_put BK120.out 0 _ rfl)) 1 _ rfl)) Try.underlying24 rfl (by kernel_rfl) (.tmp .nil)))) rfl ?_
    exact ⟨_, by first | rfl | (simp [errW_none, errW_some] <;> rfl) | (simp [*, errW_none, errW_some] <;> rfl), by (with_reducible repeat (first | apply Kd.V_alloc | apply Kd.V_drewN | apply Kd.V_drew)); exact Kd.V_mono (vF (b := gb120) (Kd.V_mono HO0_0.out (fun k_ hk => (⟨hk, hk.1.2⟩ : _ ∧ k_ ≠ gb120))) (fun _ hk => hk.2)) (fun _ hk => hk.1.1.1.1.1), by repeat (first | (with_reducible first | exact HB.out | apply below_alloc | apply pw_below_drewN | apply below_drew1 | refine below_set ?_ GE118.out | refine below_set ?_ GE119.out | refine below_set ?_ GE120.out) | exact HB.out)⟩
  · rw [if_neg c2] at H
    have c2b0 : ((l0_0.length : Int) == 0) = false := beq_eq_false_iff_ne.mpr c2
    have c2b1 : ((l0_0.length : Int) != 0) = true := bne_iff_ne.mpr c2
    have c2b2 : ¬ (l0_0 = []) := fun h_ => c2 (by rw [h_]; rfl)
    by_cases c18 : 0 < (l0_0.length : Int)
    · rw [if_pos c18] at H
      have c18b0 : decide (0 < (l0_0.length : Int)) = true := decide_eq_true c18
      have c18b1 : decide (0 < l0_0.length) = true := decide_eq_true (by omega)
      clear c18
      by_cases c19 : 1 ≤ (l0_0.length : Int)
      · rw [if_pos c19] at H
        have c19b0 := eq_true c19
        have c19b1 : decide (1 ≤ (l0_0.length : Int)) = true := decide_eq_true c19
        clear c19
        obtain ⟨y123, hy123⟩ : ∃ y_ : List (S33), y_ = (l0_0.drop 1) := ⟨_, rfl⟩
        replace H : (some ((rd_T33 l0_0 0).f0, (rd_T33 l0_0 0).f1, (rd_T33 l0_0 0).f2.f0, (rd_T33 l0_0 0).f2.f1, (rd_T33 l0_0 0).f2.f2, (rd_T33 l0_0 0).f2.f3, y123, a0_1, true)) = some (r1, r2, r3, r4, r5, r6, r7, r8, r9) := by first | (rw [hy123]; with_reducible exact H) | (have H2_ := (Option.bind_some _ _).symm.trans H; rw [hy123]; with_reducible exact H2_) | (have H2_ := (Option.bind_some _ _).symm.trans H; with_reducible exact H2_) | with_reducible exact H | (rw [hy123]; exact H) | exact H
        have Ny123 := Aside0.mk hy123
        clear hy123
        simp only [Option.some.injEq, Prod.mk.injEq] at H
        obtain ⟨rfl, rfl, rfl, rfl, rfl, rfl, rfl, rfl, rfl⟩ := H
        go_enter Try.func15, Try.ntmps15
        try go_wp2_with (first | ((with_reducible refine gate_dst (N := 1) rfl ?_); refine box_event ?hg (N := 1) ?hd (cs := #[.slice A0_0 l0_0.length c0_0, .bool a0_1]) (t := 24) ?hr ?_; (case hd => rfl); (case hg => rfl); (case hr => first | (go_simp; done) | (go_simp; rfl)); intro gb118 hg w20 hbox hb; replace HO0_0 := Aside0.mk (Kd.V_below (Kd.V_elderB (vS HO0_0.out) gb118 (Nat.le_of_eq hg.symm)) hb); have BK118 := Aside0.mk (hbox); have GW118 := Aside0.mk ((by rw [hg]; exact (below_size (hS HB.out)) : w.heap.size ≤ gb118)); have GE118 := Aside0.mk ((by rw [hg]; exact (below_size (hS HB.out)) : w.heap.size ≤ gb118)); replace HB := Aside0.mk (below_step (hS HB.out) hb); clear hb hbox hg) | ((with_reducible refine gate_dst (N := 2) rfl ?_); refine box_event ?hg (N := 2) ?hd (cs := #[.string (⟨#[]⟩ : ByteArray), .bool false, .int .i64 0, .int .i64 0, .int .i64 0, .string (⟨#[]⟩ : ByteArray)]) (t := 33) ?hr ?_; (case hd => rfl); (case hg => rfl); (case hr => first | (go_simp; done) | (go_simp; rfl)); intro gb119 hg w21 hbox hb; replace HO0_0 := Aside0.mk (Kd.V_below (Kd.V_elderB (vS HO0_0.out) gb119 (Nat.le_of_eq hg.symm)) hb); have BK119 := Aside0.mk (hbox); have GW119 := Aside0.mk ((by rw [hg]; exact (below_size (hS HB.out)) : w.heap.size ≤ gb119)); have GE119 := Aside0.mk ((by rw [hg]; exact (below_size (hS HB.out)) : w.heap.size ≤ gb119)); replace HB := Aside0.mk (below_step (hS HB.out) hb); have NB118_119 := Aside0.mk ((by rw [hg]; exact Nat.ne_of_lt (blk_lt (bS BK118.out)) : gb118 ≠ gb119)); have NB119_118 := Aside0.mk ((by rw [hg]; exact Nat.ne_of_gt (blk_lt (bS BK118.out)) : gb119 ≠ gb118)); replace BK118 := Aside0.mk (blk_below (bS BK118.out) hb); clear hb hbox hg) | ((with_reducible refine gate_dst (N := 3) rfl ?_); refine box_event ?hg (N := 3) ?hd (cs := #[.slice none 0 0, .bool false]) (t := 24) ?hr ?_; (case hd => rfl); (case hg => rfl); (case hr => first | (go_simp; done) | (go_simp; rfl)); intro gb120 hg w22 hbox hb; replace HO0_0 := Aside0.mk (Kd.V_below (Kd.V_elderB (vS HO0_0.out) gb120 (Nat.le_of_eq hg.symm)) hb); have BK120 := Aside0.mk (hbox); have GW120 := Aside0.mk ((by rw [hg]; exact (below_size (hS HB.out)) : w.heap.size ≤ gb120)); have GE120 := Aside0.mk ((by rw [hg]; exact (below_size (hS HB.out)) : w.heap.size ≤ gb120)); replace HB := Aside0.mk (below_step (hS HB.out) hb); have NB118_120 := Aside0.mk ((by rw [hg]; exact Nat.ne_of_lt (blk_lt (bS BK118.out)) : gb118 ≠ gb120)); have NB120_118 := Aside0.mk ((by rw [hg]; exact Nat.ne_of_gt (blk_lt (bS BK118.out)) : gb120 ≠ gb118)); replace BK118 := Aside0.mk (blk_below (bS BK118.out) hb); have NB119_120 := Aside0.mk ((by rw [hg]; exact Nat.ne_of_lt (blk_lt (bS BK119.out)) : gb119 ≠ gb120)); have NB120_119 := Aside0.mk ((by rw [hg]; exact Nat.ne_of_gt (blk_lt (bS BK119.out)) : gb120 ≠ gb119)); replace BK119 := Aside0.mk (blk_below (bS BK119.out) hb); clear hb hbox hg; have hnb23 := NB118_119.out; have hnc23 := NB119_118.out; have hnb24 := NB118_120.out; have hnc24 := NB120_118.out; have hcz25_0 : w22.cell? ⟨gb118, 0, none⟩ = some (.slice A0_0 l0_0.length c0_0) := (blk_cell BK118.out 0).trans rfl; have hcz25_1 : w22.cell? ⟨gb118, 1, none⟩ = some (.bool a0_1) := (blk_cell BK118.out 1).trans rfl; have hfz25_0 := blk_frozen BK118.out 0; have hfz25_1 := blk_frozen BK118.out 1; have p121 : 0 ≤ (0 : Int) := (by omega); have q121 : 0 < (l0_0.length : Int) := of_decide_eq_true (by first | (with_reducible assumption) | assumption); obtain ⟨ad121, e121, hx121_0, hx121_1, hx121_2, hx121_3, hx121_4, hx121_5⟩ := at_T33 (Kd.V_reads' HO0_0.out).2.2 0 p121 q121; cases e121; have qi121 : (0 < l0_0.length) = True := eq_true (by omega); (try rw [show ((0 : Int)).toNat = 0 from rfl] at hx121_0); (try rw [show 0 * 6 = 0 from rfl] at hx121_0); (try rw [Addr.add_zero'] at hx121_0); (try rw [show ((0 : Int)).toNat = 0 from rfl] at hx121_1); (try rw [show 0 * 6 = 0 from rfl] at hx121_1); (try rw [Addr.add_zero'] at hx121_1); (try rw [show ((0 : Int)).toNat = 0 from rfl] at hx121_2); (try rw [show 0 * 6 = 0 from rfl] at hx121_2); (try rw [Addr.add_zero'] at hx121_2); (try rw [show ((0 : Int)).toNat = 0 from rfl] at hx121_3); (try rw [show 0 * 6 = 0 from rfl] at hx121_3); (try rw [Addr.add_zero'] at hx121_3); (try rw [show ((0 : Int)).toNat = 0 from rfl] at hx121_4); (try rw [show 0 * 6 = 0 from rfl] at hx121_4); (try rw [Addr.add_zero'] at hx121_4); (try rw [show ((0 : Int)).toNat = 0 from rfl] at hx121_5); (try rw [show 0 * 6 = 0 from rfl] at hx121_5); (try rw [Addr.add_zero'] at hx121_5); replace p121 := eq_true p121; replace q121 := eq_true q121) | ((with_reducible refine gate_dst (N := 5) rfl ?_); refine box_event ?hg (N := 5) ?hd (cs := #[.string (⟨#[]⟩ : ByteArray), .bool false, .int .i64 0, .int .i64 0, .int .i64 0, .string (⟨#[]⟩ : ByteArray)]) (t := 33) ?hr ?_; (case hd => rfl); (case hg => rfl); (case hr => first | (go_simp; done) | (go_simp; rfl)); intro gb122 hg w26 hbox hb; replace HO0_0 := Aside0.mk (Kd.V_below (Kd.V_elderB (vS HO0_0.out) gb122 (Nat.le_of_eq hg.symm)) hb); have BK122 := Aside0.mk (hbox); have GW122 := Aside0.mk ((by rw [hg]; exact (below_size (hS HB.out)) : w.heap.size ≤ gb122)); have GE122 := Aside0.mk ((by rw [hg]; exact (below_size (hS HB.out)) : w.heap.size ≤ gb122)); replace HB := Aside0.mk (below_step (hS HB.out) hb); have NB118_122 := Aside0.mk ((by rw [hg]; exact Nat.ne_of_lt (blk_lt (bS BK118.out)) : gb118 ≠ gb122)); have NB122_118 := Aside0.mk ((by rw [hg]; exact Nat.ne_of_gt (blk_lt (bS BK118.out)) : gb122 ≠ gb118)); replace BK118 := Aside0.mk (blk_below (bS BK118.out) hb); have NB119_122 := Aside0.mk ((by rw [hg]; exact Nat.ne_of_lt (blk_lt (bS BK119.out)) : gb119 ≠ gb122)); have NB122_119 := Aside0.mk ((by rw [hg]; exact Nat.ne_of_gt (blk_lt (bS BK119.out)) : gb122 ≠ gb119)); replace BK119 := Aside0.mk (blk_below (bS BK119.out) hb); have NB120_122 := Aside0.mk ((by rw [hg]; exact Nat.ne_of_lt (blk_lt (bS BK120.out)) : gb120 ≠ gb122)); have NB122_120 := Aside0.mk ((by rw [hg]; exact Nat.ne_of_gt (blk_lt (bS BK120.out)) : gb122 ≠ gb120)); replace BK120 := Aside0.mk (blk_below (bS BK120.out) hb); clear hb hbox hg; have hnb27 := NB122_118.out; have hnc27 := NB118_122.out; have hnb28 := NB122_119.out; have hnc28 := NB119_122.out; have hnb29 := NB122_120.out; have hnc29 := NB120_122.out; have hcz30_0 : w26.cell? ⟨gb122, 0, none⟩ = some (.string (⟨#[]⟩ : ByteArray)) := (blk_cell BK122.out 0).trans rfl; have hcz30_1 : w26.cell? ⟨gb122, 1, none⟩ = some (.bool false) := (blk_cell BK122.out 1).trans rfl; have hcz30_2 : w26.cell? ⟨gb122, 2, none⟩ = some (.int .i64 0) := (blk_cell BK122.out 2).trans rfl; have hcz30_3 : w26.cell? ⟨gb122, 3, none⟩ = some (.int .i64 0) := (blk_cell BK122.out 3).trans rfl; have hcz30_4 : w26.cell? ⟨gb122, 4, none⟩ = some (.int .i64 0) := (blk_cell BK122.out 4).trans rfl; have hcz30_5 : w26.cell? ⟨gb122, 5, none⟩ = some (.string (⟨#[]⟩ : ByteArray)) := (blk_cell BK122.out 5).trans rfl; have hfz30_0 := blk_frozen BK122.out 0; have hfz30_1 := blk_frozen BK122.out 1; have hfz30_2 := blk_frozen BK122.out 2; have hfz30_3 := blk_frozen BK122.out 3; have hfz30_4 := blk_frozen BK122.out 4; have hfz30_5 := blk_frozen BK122.out 5) | ((with_reducible refine gate_store (t := 33) (p := 5) rfl ?_); refine store_event (t := 33) (p := 5) (v := ?vo_w31) (w1 := ((((((w26.setCell ⟨gb122, 0, none⟩ (.string ((rd_T33 l0_0 0).f0))).setCell ⟨gb122, 1, none⟩ (.bool ((rd_T33 l0_0 0).f1))).setCell ⟨gb122, 2, none⟩ (.int .i64 ((rd_T33 l0_0 0).f2.f0))).setCell ⟨gb122, 3, none⟩ (.int .i64 ((rd_T33 l0_0 0).f2.f1))).setCell ⟨gb122, 4, none⟩ (.int .i64 ((rd_T33 l0_0 0).f2.f2))).setCell ⟨gb122, 5, none⟩ (.string ((rd_T33 l0_0 0).f2.f3)))) ?hg ?ho ?hn ?hr ?_; (case ho => rfl); (case hg => rfl); (case hn => rfl); (case hr => first | (go_simp; done) | (go_simp; rfl)); intro w31 hw; replace HO0_0 : Aside0 (Kd.V k33 33 w31 w.heap.size (fun k_ => (P0_0_ k_ ∨ w.heap.size ≤ k_) ∧ k_ ≠ gb118 ∧ k_ ≠ gb119 ∧ k_ ≠ gb120 ∧ k_ ≠ gb122) (.slice (some ad121) l0_0.length c0_0) l0_0) := ⟨(by rw [hw]; exact (by (with_reducible repeat (first | apply Kd.V_alloc | apply Kd.V_drewN | apply Kd.V_drew)); exact Kd.V_mono (vF (b := gb122) (Kd.V_mono HO0_0.out (fun k_ hk => (⟨hk, hk.2⟩ : _ ∧ k_ ≠ gb122))) (fun _ hk => hk.2)) (fun _ hk => ⟨hk.1.1.1.1.1, ⟨hk.1.1.1.1.2, ⟨hk.1.1.1.2, ⟨hk.1.1.2, hk.1.2⟩⟩⟩⟩)))⟩; replace BK118 : Aside0 (w31.heap[gb118]? = some (.cells #[.slice (some ad121) l0_0.length c0_0, .bool a0_1] 24 (0, 0))) := ⟨(by rw [hw]; exact (bF (BK118.out) NB118_122.out))⟩; replace BK119 : Aside0 (w31.heap[gb119]? = some (.cells #[.string (⟨#[]⟩ : ByteArray), .bool false, .int .i64 0, .int .i64 0, .int .i64 0, .string (⟨#[]⟩ : ByteArray)] 33 (0, 0))) := ⟨(by rw [hw]; exact (bF (BK119.out) NB119_122.out))⟩; replace BK120 : Aside0 (w31.heap[gb120]? = some (.cells #[.slice none 0 0, .bool false] 24 (0, 0))) := ⟨(by rw [hw]; exact (bF (BK120.out) NB120_122.out))⟩; replace BK122 : Aside0 (w31.heap[gb122]? = some (.cells #[.string ((rd_T33 l0_0 0).f0), .bool ((rd_T33 l0_0 0).f1), .int .i64 ((rd_T33 l0_0 0).f2.f0), .int .i64 ((rd_T33 l0_0 0).f2.f1), .int .i64 ((rd_T33 l0_0 0).f2.f2), .string ((rd_T33 l0_0 0).f2.f3)] 33 (0, 0))) := ⟨(by rw [hw]; exact (bS (blk_put (bS (blk_put (bS (blk_put (bS (blk_put (bS (blk_put (bS (blk_put (bS BK122.out) 0 _ rfl)) 1 _ rfl)) 2 _ rfl)) 3 _ rfl)) 4 _ rfl)) 5 _ rfl)))⟩; replace HB : Aside0 (Below w.heap.size w w31) := ⟨(by rw [hw]; exact (hF HB.out GE122.out))⟩; clear hw; have hcz32_0 : w31.cell? ⟨gb118, 0, none⟩ = some (.slice (some ad121) l0_0.length c0_0) := (blk_cell BK118.out 0).trans rfl; have hcz32_1 : w31.cell? ⟨gb118, 1, none⟩ = some (.bool a0_1) := (blk_cell BK118.out 1).trans rfl; have hfz32_0 := blk_frozen BK118.out 0; have hfz32_1 := blk_frozen BK118.out 1; have q33 : (1 : Int) ≤ ((l0_0.length : Int) : Int) := of_decide_eq_true (by first | (with_reducible assumption) | assumption); obtain ⟨i033, hi033, _, hsz33, _⟩ := info_parts info33; have hroom33 : l0_0.length ≤ c0_0 := (Kd.V_reads' HO0_0.out).2.1; have hC33 : Kd.F k33 _ _ (some ad121) l0_0.length l0_0 := (Kd.V_at (base := w.heap.size) HO0_0.out).2.2; have hcut33 := cut_from (P := Try.prog) 22 33 .i64 Try.underlying22 hi033 6 hsz33 (some ad121) l0_0.length c0_0 1 (by omega) q33; have hr33 := Kd.F_cut (m := (1 : Int).toNat) (c := c0_0) hC33 (by omega) hroom33; obtain ⟨A33, hA33⟩ : ∃ A1, A1 = (if c0_0 = (1 : Int).toNat then (some ad121) else ((some ad121) : Option Addr).map (·.add ((1 : Int).toNat * 6))) := ⟨_, rfl⟩; obtain ⟨c33, hc33⟩ : ∃ c1, c1 = c0_0 - (1 : Int).toNat := ⟨_, rfl⟩; have hy33 : y123.length = l0_0.length - (1 : Int).toNat := (by rw [Ny123.out, List.length_drop] <;> omega); rw [show (l0_0).drop (1 : Int).toNat = y123 from Ny123.out.symm] at hr33; replace hr33 : Kd.F k33 _ _ A33 y123.length y123 := (by rw [hA33]; exact hr33); rw [← hy33, ← hA33, ← hc33] at hcut33; have HO127 := Aside0.mk (show Kd.V k33 33 _ w.heap.size _ (.slice A33 y123.length c33) y123 from Kd.V_mk (by rw [hy33, hc33]; exact Nat.sub_le_sub_right hroom33 _) hr33); have HC127 := Aside0.mk (show y123.length ≤ c33 from by rw [hy33, hc33]; exact Nat.sub_le_sub_right hroom33 _); clear hr33 hC33 hroom33 hi033 hsz33 hc33; have KY33 := Aside0.mk hy33; have KA33 := Aside0.mk hA33; clear hy33 hA33; replace q33 := eq_true q33))
        have n0_ : Aside0 (Kd.V k33 33 (w31.setCell ⟨gb118, 0, none⟩ (.slice A33 y123.length c33)) w.heap.size (fun k_ => (P0_0_ k_ ∨ w.heap.size ≤ k_) ∧ k_ ≠ gb118 ∧ k_ ≠ gb119 ∧ k_ ≠ gb120 ∧ k_ ≠ gb122) (.slice (some ad121) l0_0.length c0_0) l0_0) := ⟨by (with_reducible repeat (first | apply Kd.V_alloc | apply Kd.V_drewN | apply Kd.V_drew)); exact Kd.V_mono (vF (b := gb118) (Kd.V_mono HO0_0.out (fun k_ hk => (⟨hk, hk.2.1⟩ : _ ∧ k_ ≠ gb118))) (fun _ hk => hk.2)) (fun _ hk => ⟨hk.1.1, ⟨hk.1.2.1, ⟨hk.1.2.2.1, ⟨hk.1.2.2.2.1, hk.1.2.2.2.2⟩⟩⟩⟩)⟩
        have n1_ : Aside0 (Kd.V k33 33 (w31.setCell ⟨gb118, 0, none⟩ (.slice A33 y123.length c33)) w.heap.size (fun k_ => (P0_0_ k_ ∨ w.heap.size ≤ k_) ∧ k_ ≠ gb118 ∧ k_ ≠ gb119 ∧ k_ ≠ gb120 ∧ k_ ≠ gb122) (.slice A33 y123.length c33) y123) := ⟨by (with_reducible repeat (first | apply Kd.V_alloc | apply Kd.V_drewN | apply Kd.V_drew)); exact Kd.V_mono (vF (b := gb118) (Kd.V_mono HO127.out (fun k_ hk => (⟨hk, hk.2.1⟩ : _ ∧ k_ ≠ gb118))) (fun _ hk => hk.2)) (fun _ hk => ⟨hk.1.1, ⟨hk.1.2.1, ⟨hk.1.2.2.1, ⟨hk.1.2.2.2.1, hk.1.2.2.2.2⟩⟩⟩⟩)⟩
        have n2_ : Aside0 ((w31.setCell ⟨gb118, 0, none⟩ (.slice A33 y123.length c33)).heap[gb118]? = some (.cells #[.slice A33 y123.length c33, .bool a0_1] 24 (0, 0))) := ⟨by refine bS ?_; refine blk_put (cs := #[.slice (some ad121) l0_0.length c0_0, .bool a0_1]) ?_ 0 _ rfl; refine bS ?_; exact BK118.out⟩
        have n3_ : Aside0 ((w31.setCell ⟨gb118, 0, none⟩ (.slice A33 y123.length c33)).heap[gb119]? = some (.cells #[.string (⟨#[]⟩ : ByteArray), .bool false, .int .i64 0, .int .i64 0, .int .i64 0, .string (⟨#[]⟩ : ByteArray)] 33 (0, 0))) := ⟨bF (BK119.out) NB119_118.out⟩
        have n4_ : Aside0 ((w31.setCell ⟨gb118, 0, none⟩ (.slice A33 y123.length c33)).heap[gb120]? = some (.cells #[.slice none 0 0, .bool false] 24 (0, 0))) := ⟨bF (BK120.out) NB120_118.out⟩
        have n5_ : Aside0 ((w31.setCell ⟨gb118, 0, none⟩ (.slice A33 y123.length c33)).heap[gb122]? = some (.cells #[.string ((rd_T33 l0_0 0).f0), .bool ((rd_T33 l0_0 0).f1), .int .i64 ((rd_T33 l0_0 0).f2.f0), .int .i64 ((rd_T33 l0_0 0).f2.f1), .int .i64 ((rd_T33 l0_0 0).f2.f2), .string ((rd_T33 l0_0 0).f2.f3)] 33 (0, 0))) := ⟨bF (BK122.out) NB122_118.out⟩
        have n6_ : Aside0 (Below w.heap.size w (w31.setCell ⟨gb118, 0, none⟩ (.slice A33 y123.length c33))) := ⟨by repeat (first | (with_reducible first | exact HB.out | apply below_alloc | apply pw_below_drewN | apply below_drew1 | refine below_set ?_ GE118.out | refine below_set ?_ GE119.out | refine below_set ?_ GE120.out | refine below_set ?_ GE122.out) | exact HB.out)⟩
        (try clear HO0_0)
        (try clear HO127)
        (try clear BK118)
        (try clear BK119)
        (try clear BK120)
        (try clear BK122)
        (try clear HB)
        generalize (w31.setCell ⟨gb118, 0, none⟩ (.slice A33 y123.length c33)) = w34 at n0_ n1_ n2_ n3_ n4_ n5_ n6_ ⊢
        have HO0_0 := n0_
        have HO127 := n1_
        have BK118 := n2_
        have BK119 := n3_
        have BK120 := n4_
        have BK122 := n5_
        have HB := n6_
        clear n0_ n1_ n2_ n3_ n4_ n5_ n6_
        replace HO0_0 := Aside0.mk (Kd.V_drew HO0_0.out)
        replace HO127 := Aside0.mk (Kd.V_drew HO127.out)
        replace BK118 := Aside0.mk (blk_drew BK118.out)
        replace BK119 := Aside0.mk (blk_drew BK119.out)
        replace BK120 := Aside0.mk (blk_drew BK120.out)
        replace BK122 := Aside0.mk (blk_drew BK122.out)
        replace HB := Aside0.mk (below_drew1 HB.out)
        refine start_ (n := 5) (S := fun w' => w'.cell? ⟨gb122, 0, none⟩ = some (.string ((rd_T33 l0_0 0).f0)) ∧ w'.cell? ⟨gb122, 1, none⟩ = some (.bool ((rd_T33 l0_0 0).f1)) ∧ w'.cell? ⟨gb122, 2, none⟩ = some (.int .i64 ((rd_T33 l0_0 0).f2.f0)) ∧ w'.cell? ⟨gb122, 3, none⟩ = some (.int .i64 ((rd_T33 l0_0 0).f2.f1)) ∧ w'.cell? ⟨gb122, 4, none⟩ = some (.int .i64 ((rd_T33 l0_0 0).f2.f2)) ∧ w'.cell? ⟨gb122, 5, none⟩ = some (.string ((rd_T33 l0_0 0).f2.f3)) ∧ w'.cell? ⟨gb118, 0, none⟩ = some (.slice A33 y123.length c33) ∧ w'.cell? ⟨gb118, 1, none⟩ = some (.bool a0_1)) (ds := []) #[false, false, false, false, false] (by kernel_rfl) rfl rfl ⟨(blk_cell BK122.out 0).trans rfl, (blk_cell BK122.out 1).trans rfl, (blk_cell BK122.out 2).trans rfl, (blk_cell BK122.out 3).trans rfl, (blk_cell BK122.out 4).trans rfl, (blk_cell BK122.out 5).trans rfl, (blk_cell BK118.out 0).trans rfl, (blk_cell BK118.out 1).trans rfl⟩ (fun hHeld => ?_)
        generalize w34.drew = w35 at HO0_0 HO127 BK118 BK119 BK120 BK122 HB hHeld ⊢
        refine take_ (i := 0) (N := some 20) (v := ?_) (a' := ?_) #[true, false, false, false, false] rfl rfl (by kernel_rfl) (fun _ _ _ h => h) (Or.inl ⟨by rfl, ?_⟩) hHeld ?_ ?_
        rotate_left
        · rintro w' ⟨s0, s1, s2, s3, s4, s5, s6, s7⟩
          go_simp
          with_reducible rfl
        rotate_left
        · simp only [Act.put, List.setIfInBounds_toArray, List.set_cons_zero, List.set_cons_succ, i64_w, i32_w]
          rfl
        refine take_ (i := 1) (N := some 21) (v := ?_) (a' := ?_) #[true, true, false, false, false] rfl rfl (by kernel_rfl) (fun _ _ _ h => h) (Or.inl ⟨by rfl, ?_⟩) hHeld ?_ ?_
        rotate_left
        · rintro w' ⟨s0, s1, s2, s3, s4, s5, s6, s7⟩
          go_simp
          with_reducible rfl
        rotate_left
        · simp only [Act.put, List.setIfInBounds_toArray, List.set_cons_zero, List.set_cons_succ, i64_w, i32_w]
          rfl
        refine one_ (i := 2) (N := none) #[true, true, true, false, false] rfl rfl (by kernel_rfl) (by decide) (fun K hK => ?_)
        have hs36 : w35.cell? ⟨gb119, 0, none⟩ = some (.string (⟨#[]⟩ : ByteArray)) := (blk_cell BK119.out 0).trans rfl
        have hfs36 := blk_frozen BK119.out 0
        have hns36_0 := NB118_119.out
        have hns36_2 := NB120_119.out
        have hns36_3 := NB122_119.out
        have hms36_0 := NB119_118.out
        have hms36_2 := NB119_120.out
        have hms36_3 := NB119_122.out
        have hs37 : w35.cell? ⟨gb119, 1, none⟩ = some (.bool false) := (blk_cell BK119.out 1).trans rfl
        have hfs37 := blk_frozen BK119.out 1
        have hns37_0 := NB118_119.out
        have hns37_2 := NB120_119.out
        have hns37_3 := NB122_119.out
        have hms37_0 := NB119_118.out
        have hms37_2 := NB119_120.out
        have hms37_3 := NB119_122.out
        have hs38 : w35.cell? ⟨gb119, 2, none⟩ = some (.int .i64 0) := (blk_cell BK119.out 2).trans rfl
        have hfs38 := blk_frozen BK119.out 2
        have hns38_0 := NB118_119.out
        have hns38_2 := NB120_119.out
        have hns38_3 := NB122_119.out
        have hms38_0 := NB119_118.out
        have hms38_2 := NB119_120.out
        have hms38_3 := NB119_122.out
        have hs39 : w35.cell? ⟨gb119, 3, none⟩ = some (.int .i64 0) := (blk_cell BK119.out 3).trans rfl
        have hfs39 := blk_frozen BK119.out 3
        have hns39_0 := NB118_119.out
        have hns39_2 := NB120_119.out
        have hns39_3 := NB122_119.out
        have hms39_0 := NB119_118.out
        have hms39_2 := NB119_120.out
        have hms39_3 := NB119_122.out
        have hs40 : w35.cell? ⟨gb119, 4, none⟩ = some (.int .i64 0) := (blk_cell BK119.out 4).trans rfl
        have hfs40 := blk_frozen BK119.out 4
        have hns40_0 := NB118_119.out
        have hns40_2 := NB120_119.out
        have hns40_3 := NB122_119.out
        have hms40_0 := NB119_118.out
        have hms40_2 := NB119_120.out
        have hms40_3 := NB119_122.out
        have hs41 : w35.cell? ⟨gb119, 5, none⟩ = some (.string (⟨#[]⟩ : ByteArray)) := (blk_cell BK119.out 5).trans rfl
        have hfs41 := blk_frozen BK119.out 5
        have hns41_0 := NB118_119.out
        have hns41_2 := NB120_119.out
        have hns41_3 := NB122_119.out
        have hms41_0 := NB119_118.out
        have hms41_2 := NB119_120.out
        have hms41_3 := NB119_122.out
        refine skip_ (w1 := ?_) (by rfl) rfl ?_ ?_
        rotate_left
        · go_simp
          rfl
        refine hK.out _ _ ⟨((cell_far (p := ⟨gb119, _, none⟩) NB122_119.out _).trans (((cell_far (p := ⟨gb119, _, none⟩) NB122_119.out _).trans (((cell_far (p := ⟨gb119, _, none⟩) NB122_119.out _).trans (((cell_far (p := ⟨gb119, _, none⟩) NB122_119.out _).trans (((cell_far (p := ⟨gb119, _, none⟩) NB122_119.out _).trans (((cell_far (p := ⟨gb119, _, none⟩) NB122_119.out _).trans (hHeld.1)))))))))))), ((cell_far (p := ⟨gb119, _, none⟩) NB122_119.out _).trans (((cell_far (p := ⟨gb119, _, none⟩) NB122_119.out _).trans (((cell_far (p := ⟨gb119, _, none⟩) NB122_119.out _).trans (((cell_far (p := ⟨gb119, _, none⟩) NB122_119.out _).trans (((cell_far (p := ⟨gb119, _, none⟩) NB122_119.out _).trans (((cell_far (p := ⟨gb119, _, none⟩) NB122_119.out _).trans (hHeld.2.1)))))))))))), ((cell_far (p := ⟨gb119, _, none⟩) NB122_119.out _).trans (((cell_far (p := ⟨gb119, _, none⟩) NB122_119.out _).trans (((cell_far (p := ⟨gb119, _, none⟩) NB122_119.out _).trans (((cell_far (p := ⟨gb119, _, none⟩) NB122_119.out _).trans (((cell_far (p := ⟨gb119, _, none⟩) NB122_119.out _).trans (((cell_far (p := ⟨gb119, _, none⟩) NB122_119.out _).trans (hHeld.2.2.1)))))))))))), ((cell_far (p := ⟨gb119, _, none⟩) NB122_119.out _).trans (((cell_far (p := ⟨gb119, _, none⟩) NB122_119.out _).trans (((cell_far (p := ⟨gb119, _, none⟩) NB122_119.out _).trans (((cell_far (p := ⟨gb119, _, none⟩) NB122_119.out _).trans (((cell_far (p := ⟨gb119, _, none⟩) NB122_119.out _).trans (((cell_far (p := ⟨gb119, _, none⟩) NB122_119.out _).trans (hHeld.2.2.2.1)))))))))))), ((cell_far (p := ⟨gb119, _, none⟩) NB122_119.out _).trans (((cell_far (p := ⟨gb119, _, none⟩) NB122_119.out _).trans (((cell_far (p := ⟨gb119, _, none⟩) NB122_119.out _).trans (((cell_far (p := ⟨gb119, _, none⟩) NB122_119.out _).trans (((cell_far (p := ⟨gb119, _, none⟩) NB122_119.out _).trans (((cell_far (p := ⟨gb119, _, none⟩) NB122_119.out _).trans (hHeld.2.2.2.2.1)))))))))))), ((cell_far (p := ⟨gb119, _, none⟩) NB122_119.out _).trans (((cell_far (p := ⟨gb119, _, none⟩) NB122_119.out _).trans (((cell_far (p := ⟨gb119, _, none⟩) NB122_119.out _).trans (((cell_far (p := ⟨gb119, _, none⟩) NB122_119.out _).trans (((cell_far (p := ⟨gb119, _, none⟩) NB122_119.out _).trans (((cell_far (p := ⟨gb119, _, none⟩) NB122_119.out _).trans (hHeld.2.2.2.2.2.1)))))))))))), ((cell_far (p := ⟨gb119, _, none⟩) NB118_119.out _).trans (((cell_far (p := ⟨gb119, _, none⟩) NB118_119.out _).trans (((cell_far (p := ⟨gb119, _, none⟩) NB118_119.out _).trans (((cell_far (p := ⟨gb119, _, none⟩) NB118_119.out _).trans (((cell_far (p := ⟨gb119, _, none⟩) NB118_119.out _).trans (((cell_far (p := ⟨gb119, _, none⟩) NB118_119.out _).trans (hHeld.2.2.2.2.2.2.1)))))))))))), ((cell_far (p := ⟨gb119, _, none⟩) NB118_119.out _).trans (((cell_far (p := ⟨gb119, _, none⟩) NB118_119.out _).trans (((cell_far (p := ⟨gb119, _, none⟩) NB118_119.out _).trans (((cell_far (p := ⟨gb119, _, none⟩) NB118_119.out _).trans (((cell_far (p := ⟨gb119, _, none⟩) NB118_119.out _).trans (((cell_far (p := ⟨gb119, _, none⟩) NB118_119.out _).trans (hHeld.2.2.2.2.2.2.2))))))))))))⟩ (fun hHeld => ?_)
        clear hK K
        clear hs36 hfs36 hns36_0 hns36_2 hns36_3 hms36_0 hms36_2 hms36_3 hs37 hfs37 hns37_0 hns37_2 hns37_3 hms37_0 hms37_2 hms37_3 hs38 hfs38 hns38_0 hns38_2 hns38_3 hms38_0 hms38_2 hms38_3 hs39 hfs39 hns39_0 hns39_2 hns39_3 hms39_0 hms39_2 hms39_3 hs40 hfs40 hns40_0 hns40_2 hns40_3 hms40_0 hms40_2 hms40_3 hs41 hfs41 hns41_0 hns41_2 hns41_3 hms41_0 hms41_2 hms41_3
        generalize hq_ : ((((((w35.setCell ⟨gb119, 0, none⟩ (.string ((rd_T33 l0_0 0).f0))).setCell ⟨gb119, 1, none⟩ (.bool ((rd_T33 l0_0 0).f1))).setCell ⟨gb119, 2, none⟩ (.int .i64 ((rd_T33 l0_0 0).f2.f0))).setCell ⟨gb119, 3, none⟩ (.int .i64 ((rd_T33 l0_0 0).f2.f1))).setCell ⟨gb119, 4, none⟩ (.int .i64 ((rd_T33 l0_0 0).f2.f2))).setCell ⟨gb119, 5, none⟩ (.string ((rd_T33 l0_0 0).f2.f3))) = w35_c at hHeld ⊢
        have z_ := @id (((((((w35.setCell ⟨gb119, 0, none⟩ (.string ((rd_T33 l0_0 0).f0))).setCell ⟨gb119, 1, none⟩ (.bool ((rd_T33 l0_0 0).f1))).setCell ⟨gb119, 2, none⟩ (.int .i64 ((rd_T33 l0_0 0).f2.f0))).setCell ⟨gb119, 3, none⟩ (.int .i64 ((rd_T33 l0_0 0).f2.f1))).setCell ⟨gb119, 4, none⟩ (.int .i64 ((rd_T33 l0_0 0).f2.f2))).setCell ⟨gb119, 5, none⟩ (.string ((rd_T33 l0_0 0).f2.f3))).heap[gb119]? = some _) (bS (blk_put (bS (blk_put (bS (blk_put (bS (blk_put (bS (blk_put (bS (blk_put (bS BK119.out) 0 _ rfl)) 1 _ rfl)) 2 _ rfl)) 3 _ rfl)) 4 _ rfl)) 5 _ rfl)); rw [hq_] at z_; replace BK119 := Aside0.mk z_; clear z_
        have z_ := @id (((((((w35.setCell ⟨gb119, 0, none⟩ (.string ((rd_T33 l0_0 0).f0))).setCell ⟨gb119, 1, none⟩ (.bool ((rd_T33 l0_0 0).f1))).setCell ⟨gb119, 2, none⟩ (.int .i64 ((rd_T33 l0_0 0).f2.f0))).setCell ⟨gb119, 3, none⟩ (.int .i64 ((rd_T33 l0_0 0).f2.f1))).setCell ⟨gb119, 4, none⟩ (.int .i64 ((rd_T33 l0_0 0).f2.f2))).setCell ⟨gb119, 5, none⟩ (.string ((rd_T33 l0_0 0).f2.f3))).heap[gb120]? = some _) (bF BK120.out NB120_119.out); rw [hq_] at z_; replace BK120 := Aside0.mk z_; clear z_
        have z_ := @id (Kd.V _ _ ((((((w35.setCell ⟨gb119, 0, none⟩ (.string ((rd_T33 l0_0 0).f0))).setCell ⟨gb119, 1, none⟩ (.bool ((rd_T33 l0_0 0).f1))).setCell ⟨gb119, 2, none⟩ (.int .i64 ((rd_T33 l0_0 0).f2.f0))).setCell ⟨gb119, 3, none⟩ (.int .i64 ((rd_T33 l0_0 0).f2.f1))).setCell ⟨gb119, 4, none⟩ (.int .i64 ((rd_T33 l0_0 0).f2.f2))).setCell ⟨gb119, 5, none⟩ (.string ((rd_T33 l0_0 0).f2.f3))) _ _ _ _) (vF (b := gb119) (Kd.V_mono HO127.out (fun k_ hk => (⟨hk, hk.2.2.1⟩ : _ ∧ k_ ≠ gb119))) (fun _ hk => hk.2)); rw [hq_] at z_; replace HO127 := Aside0.mk z_; clear z_
        replace HB : Aside0 (Below w.heap.size w w35_c) := ⟨by rw [← hq_]; exact (by repeat (first | (with_reducible first | exact HB.out | apply below_alloc | apply pw_below_drewN | apply below_drew1 | refine below_set ?_ GE118.out | refine below_set ?_ GE119.out | refine below_set ?_ GE120.out | refine below_set ?_ GE122.out) | exact HB.out))⟩
        clear hq_
        refine one_ (i := 3) (N := none) #[true, true, true, true, false] rfl rfl (by kernel_rfl) (by decide) (fun K hK => ?_)
        have hs42 : w35_c.cell? ⟨gb120, 0, none⟩ = some (.slice none 0 0) := (blk_cell BK120.out 0).trans rfl
        have hfs42 := blk_frozen BK120.out 0
        have hns42_0 := NB118_120.out
        have hns42_1 := NB119_120.out
        have hns42_3 := NB122_120.out
        have hms42_0 := NB120_118.out
        have hms42_1 := NB120_119.out
        have hms42_3 := NB120_122.out
        have hs43 : w35_c.cell? ⟨gb120, 1, none⟩ = some (.bool false) := (blk_cell BK120.out 1).trans rfl
        have hfs43 := blk_frozen BK120.out 1
        have hns43_0 := NB118_120.out
        have hns43_1 := NB119_120.out
        have hns43_3 := NB122_120.out
        have hms43_0 := NB120_118.out
        have hms43_1 := NB120_119.out
        have hms43_3 := NB120_122.out
        refine skip_ (w1 := ?_) (by rfl) rfl ?_ ?_
        rotate_left
        · go_simp
          rfl
        refine hK.out _ _ ⟨((cell_far (p := ⟨gb120, _, none⟩) NB122_120.out _).trans (((cell_far (p := ⟨gb120, _, none⟩) NB122_120.out _).trans (hHeld.1)))), ((cell_far (p := ⟨gb120, _, none⟩) NB122_120.out _).trans (((cell_far (p := ⟨gb120, _, none⟩) NB122_120.out _).trans (hHeld.2.1)))), ((cell_far (p := ⟨gb120, _, none⟩) NB122_120.out _).trans (((cell_far (p := ⟨gb120, _, none⟩) NB122_120.out _).trans (hHeld.2.2.1)))), ((cell_far (p := ⟨gb120, _, none⟩) NB122_120.out _).trans (((cell_far (p := ⟨gb120, _, none⟩) NB122_120.out _).trans (hHeld.2.2.2.1)))), ((cell_far (p := ⟨gb120, _, none⟩) NB122_120.out _).trans (((cell_far (p := ⟨gb120, _, none⟩) NB122_120.out _).trans (hHeld.2.2.2.2.1)))), ((cell_far (p := ⟨gb120, _, none⟩) NB122_120.out _).trans (((cell_far (p := ⟨gb120, _, none⟩) NB122_120.out _).trans (hHeld.2.2.2.2.2.1)))), ((cell_far (p := ⟨gb120, _, none⟩) NB118_120.out _).trans (((cell_far (p := ⟨gb120, _, none⟩) NB118_120.out _).trans (hHeld.2.2.2.2.2.2.1)))), ((cell_far (p := ⟨gb120, _, none⟩) NB118_120.out _).trans (((cell_far (p := ⟨gb120, _, none⟩) NB118_120.out _).trans (hHeld.2.2.2.2.2.2.2))))⟩ (fun hHeld => ?_)
        clear hK K
        refine pure_ (i := 4) (N := some 4) (v := ?_) (a' := ?_) #[true, true, true, true, true] rfl rfl (by kernel_rfl) (fun _ _ _ h => h) (Or.inl ⟨by rfl, ?_⟩) ?_ ?_
        rotate_left
        · intro w'
          go_simp
          with_reducible rfl
        rotate_left
        · simp only [Act.put, List.setIfInBounds_toArray, List.set_cons_zero, List.set_cons_succ, i64_w, i32_w]
          rfl
        refine done_ (by kernel_rfl) ?_
        try go_wp2
        refine bodyPost_ret (results_list (rs := [.cell 2 33, .cell 3 24, .tmp 4]) rfl (by simp) (.cell gb119 33 #[.string ((rd_T33 l0_0 0).f0), .bool ((rd_T33 l0_0 0).f1), .int .i64 ((rd_T33 l0_0 0).f2.f0), .int .i64 ((rd_T33 l0_0 0).f2.f1), .int .i64 ((rd_T33 l0_0 0).f2.f2), .string ((rd_T33 l0_0 0).f2.f3)] (0, 0) _ rfl (bF BK119.out NB119_120.out) Try.underlying33 rfl (by kernel_rfl) (.cell gb120 24 #[.slice A33 y123.length c33, .bool a0_1] (0, 0) _ rfl (bS (blk_put (bS (blk_put BK120.out 0 _ rfl)) 1 _ rfl)) Try.underlying24 rfl (by kernel_rfl) (.tmp .nil)))) rfl ?_
        exact ⟨_, by first | rfl | (simp [errW_none, errW_some] <;> rfl) | (simp [*, errW_none, errW_some] <;> rfl), by (with_reducible repeat (first | apply Kd.V_alloc | apply Kd.V_drewN | apply Kd.V_drew)); exact Kd.V_mono (vF (b := gb120) (Kd.V_mono HO127.out (fun k_ hk => (⟨hk, hk.1.2.2.2.1⟩ : _ ∧ k_ ≠ gb120))) (fun _ hk => hk.2)) (fun _ hk => hk.1.1.1), by repeat (first | (with_reducible first | exact HB.out | apply below_alloc | apply pw_below_drewN | apply below_drew1 | refine below_set ?_ GE118.out | refine below_set ?_ GE119.out | refine below_set ?_ GE120.out | refine below_set ?_ GE122.out) | exact HB.out)⟩
      · rw [if_neg c19] at H
        exact absurd H (by simp)
    · rw [if_neg c18] at H
      exact absurd H (by simp)

/-! ### queue_Find: function 17 -/
def queue_Find.f (l0_0 : List (S33)) (a0_1 : Bool) (a1 : ByteArray) : Option (ByteArray × Bool × Int × Int × Int × ByteArray × Bool) := (api_Change_string.f l0_0 a1).bind fun bt130 => (if bt130.2 = true then (if 0 ≤ bt130.1 then (if bt130.1 < (l0_0.length : Int) then (some ((rd_T33 l0_0 bt130.1).f0, (rd_T33 l0_0 bt130.1).f1, (rd_T33 l0_0 bt130.1).f2.f0, (rd_T33 l0_0 bt130.1).f2.f1, (rd_T33 l0_0 bt130.1).f2.f2, (rd_T33 l0_0 bt130.1).f2.f3, true)) else (none)) else (none)) else (some ((⟨#[]⟩ : ByteArray), false, 0, 0, 0, (⟨#[]⟩ : ByteArray), false)))
set_option maxHeartbeats 8000000 in
set_option maxRecDepth 100000 in
theorem queue_Find.calls (A0_0 : Option Addr) (c0_0 : Nat) (l0_0 : List (S33)) (a0_1 : Bool) (a1 : ByteArray) (r1 : ByteArray) (r2 : Bool) (r3 : Int) (r4 : Int) (r5 : Int) (r6 : ByteArray) (r7 : Bool) (w : World) (hr0_0 : Kd.C k33 w A0_0 l0_0.length l0_0) (hc0_0 : l0_0.length ≤ c0_0) (h : queue_Find.f l0_0 a0_1 a1 = some (r1, r2, r3, r4, r5, r6, r7)) :
    Calls Try.prog 17 #[.agg #[.slice A0_0 l0_0.length c0_0, .bool a0_1], .string a1] w fun e w' => e = .returned (.tuple #[.agg #[.string r1, .bool r2, .int .i64 r3, .int .i64 r4, .int .i64 r5, .string r6], .bool r7]) ∧ Below w.heap.size w w' := by
  have hu24 := Try.underlying24
  have hu33 := Try.underlying33
  have HR0_0 := Aside0.mk hr0_0
  have HC0_0 := Aside0.mk hc0_0
  clear hr0_0 hc0_0
  have HB := Aside0.mk (Below.refl w.heap.size w)
  have H : ((api_Change_string.f l0_0 a1).bind fun bt130 => (if bt130.2 = true then (if 0 ≤ bt130.1 then (if bt130.1 < (l0_0.length : Int) then (some ((rd_T33 l0_0 bt130.1).f0, (rd_T33 l0_0 bt130.1).f1, (rd_T33 l0_0 bt130.1).f2.f0, (rd_T33 l0_0 bt130.1).f2.f1, (rd_T33 l0_0 bt130.1).f2.f2, (rd_T33 l0_0 bt130.1).f2.f3, true)) else (none)) else (none)) else (some ((⟨#[]⟩ : ByteArray), false, 0, 0, 0, (⟨#[]⟩ : ByteArray), false)))) = some (r1, r2, r3, r4, r5, r6, r7) := h
  clear h
  replace H := Option.bind_eq_some_iff.mp H
  obtain ⟨⟨t130, t131⟩, A30, H⟩ := H
  replace H : (if t131 = true then (if 0 ≤ t130 then (if t130 < (l0_0.length : Int) then (some ((rd_T33 l0_0 t130).f0, (rd_T33 l0_0 t130).f1, (rd_T33 l0_0 t130).f2.f0, (rd_T33 l0_0 t130).f2.f1, (rd_T33 l0_0 t130).f2.f2, (rd_T33 l0_0 t130).f2.f3, true)) else (none)) else (none)) else (some ((⟨#[]⟩ : ByteArray), false, 0, 0, 0, (⟨#[]⟩ : ByteArray), false))) = some (r1, r2, r3, r4, r5, r6, r7) := H
  have A3 := Aside0.mk A30
  clear A30
  by_cases c4 : t131 = true
  · subst c4
    have H1 : (if 0 ≤ t130 then (if t130 < (l0_0.length : Int) then (some ((rd_T33 l0_0 t130).f0, (rd_T33 l0_0 t130).f1, (rd_T33 l0_0 t130).f2.f0, (rd_T33 l0_0 t130).f2.f1, (rd_T33 l0_0 t130).f2.f2, (rd_T33 l0_0 t130).f2.f3, true)) else (none)) else (none)) = some (r1, r2, r3, r4, r5, r6, r7) := by rw [if_pos rfl] at H; exact H
    clear H
    have H := H1
    clear H1
    by_cases c5 : 0 ≤ t130
    · rw [if_pos c5] at H
      have c5b0 : decide (0 ≤ t130) = true := decide_eq_true c5
      clear c5
      by_cases c6 : t130 < (l0_0.length : Int)
      · rw [if_pos c6] at H
        have c6b0 : decide (t130 < (l0_0.length : Int)) = true := decide_eq_true c6
        clear c6
        simp only [Option.some.injEq, Prod.mk.injEq] at H
        obtain ⟨rfl, rfl, rfl, rfl, rfl, rfl, rfl⟩ := H
        go_enter Try.func17, Try.ntmps17
        go_wp2_with (first | ((with_reducible refine gate_dst (N := 2) rfl ?_); refine box_event ?hg (N := 2) ?hd (cs := #[.slice A0_0 l0_0.length c0_0, .bool a0_1]) (t := 24) ?hr ?_; (case hd => rfl); (case hg => rfl); (case hr => first | (go_simp; done) | (go_simp; rfl)); intro gb128 hg w7 hbox hb; have BK128 := Aside0.mk (hbox); have GW128 := Aside0.mk ((by rw [hg]; exact (below_size (hS HB.out)) : w.heap.size ≤ gb128)); have GE128 := Aside0.mk ((by rw [hg]; exact (below_size (hS HB.out)) : w.heap.size ≤ gb128)); replace HB := Aside0.mk (below_step (hS HB.out) hb); clear hb hbox hg) | ((with_reducible refine gate_dst (N := 4) rfl ?_); refine box_event ?hg (N := 4) ?hd (cs := #[.string (⟨#[]⟩ : ByteArray), .bool false, .int .i64 0, .int .i64 0, .int .i64 0, .string (⟨#[]⟩ : ByteArray)]) (t := 33) ?hr ?_; (case hd => rfl); (case hg => rfl); (case hr => first | (go_simp; done) | (go_simp; rfl)); intro gb129 hg w8 hbox hb; have BK129 := Aside0.mk (hbox); have GW129 := Aside0.mk ((by rw [hg]; exact (below_size (hS HB.out)) : w.heap.size ≤ gb129)); have GE129 := Aside0.mk ((by rw [hg]; exact (below_size (hS HB.out)) : w.heap.size ≤ gb129)); replace HB := Aside0.mk (below_step (hS HB.out) hb); have NB128_129 := Aside0.mk ((by rw [hg]; exact Nat.ne_of_lt (blk_lt (bS BK128.out)) : gb128 ≠ gb129)); have NB129_128 := Aside0.mk ((by rw [hg]; exact Nat.ne_of_gt (blk_lt (bS BK128.out)) : gb129 ≠ gb128)); replace BK128 := Aside0.mk (blk_below (bS BK128.out) hb); clear hb hbox hg; have hnb9 := NB128_129.out; have hnc9 := NB129_128.out; have hcz10_0 : w8.cell? ⟨gb128, 0, none⟩ = some (.slice A0_0 l0_0.length c0_0) := (blk_cell BK128.out 0).trans rfl; have hcz10_1 : w8.cell? ⟨gb128, 1, none⟩ = some (.bool a0_1) := (blk_cell BK128.out 1).trans rfl; have hfz10_0 := blk_frozen BK128.out 0; have hfz10_1 := blk_frozen BK128.out 1) | ((with_reducible refine gate_callee (f := 34) rfl ?_); refine goesL_ (some 12) rfl rfl Try.func34 (by kernel_rfl) rfl #[.slice A0_0 l0_0.length c0_0, .string a1, .func (.func 35) #[] #[]] rfl (by (try simp only [List.map_toArray, List.map_cons, List.map_nil]); first | done | rfl | (simp only [List.length_drop, List.length_take]; rfl)) ?_; (with_reducible refine (api_Change_string.calls _ _ l0_0 a1 t130 true _ ?side1 ?side2 A3.out).mono ?_); (case side1 => repeat (first | exact (Kd.C_below HR0_0.out HB.out) | (with_reducible refine Kd.C_alloc ?_ _) | (with_reducible refine Kd.C_drewN ?_ _) | (with_reducible refine Kd.C_drew ?_))); (case side2 => exact HC0_0.out); rintro e w11 ⟨rfl, hb⟩; refine ⟨_, rfl, ?_⟩; replace BK128 := Aside0.mk (blk_below (bS BK128.out) hb); replace BK129 := Aside0.mk (blk_below (bS BK129.out) hb); replace HB := Aside0.mk (below_step (hS HB.out) hb); (try clear hb); (try clear hb2); (try clear hk); (try clear hi); have hcz12_0 : w11.cell? ⟨gb128, 0, none⟩ = some (.slice A0_0 l0_0.length c0_0) := (blk_cell BK128.out 0).trans rfl; have hcz12_1 : w11.cell? ⟨gb128, 1, none⟩ = some (.bool a0_1) := (blk_cell BK128.out 1).trans rfl; have hfz12_0 := blk_frozen BK128.out 0; have hfz12_1 := blk_frozen BK128.out 1; have p132 : 0 ≤ (t130 : Int) := of_decide_eq_true (by first | (with_reducible assumption) | assumption); have q132 : t130 < (l0_0.length : Int) := of_decide_eq_true (by first | (with_reducible assumption) | assumption); obtain ⟨ad132, e132, hx132_0, hx132_1, hx132_2, hx132_3, hx132_4, hx132_5⟩ := at_T33 HR0_0.out t130 p132 q132; cases e132; replace hx132_0 := (HB.out.cell (World.block_lt_of_cell? w _ hx132_0)).trans hx132_0; replace hx132_1 := (HB.out.cell (World.block_lt_of_cell? w _ hx132_1)).trans hx132_1; replace hx132_2 := (HB.out.cell (World.block_lt_of_cell? w _ hx132_2)).trans hx132_2; replace hx132_3 := (HB.out.cell (World.block_lt_of_cell? w _ hx132_3)).trans hx132_3; replace hx132_4 := (HB.out.cell (World.block_lt_of_cell? w _ hx132_4)).trans hx132_4; replace hx132_5 := (HB.out.cell (World.block_lt_of_cell? w _ hx132_5)).trans hx132_5; replace p132 := eq_true p132; replace q132 := eq_true q132; have hcz13_0 : w11.cell? ⟨gb129, 0, none⟩ = some (.string (⟨#[]⟩ : ByteArray)) := (blk_cell BK129.out 0).trans rfl; have hcz13_1 : w11.cell? ⟨gb129, 1, none⟩ = some (.bool false) := (blk_cell BK129.out 1).trans rfl; have hcz13_2 : w11.cell? ⟨gb129, 2, none⟩ = some (.int .i64 0) := (blk_cell BK129.out 2).trans rfl; have hcz13_3 : w11.cell? ⟨gb129, 3, none⟩ = some (.int .i64 0) := (blk_cell BK129.out 3).trans rfl; have hcz13_4 : w11.cell? ⟨gb129, 4, none⟩ = some (.int .i64 0) := (blk_cell BK129.out 4).trans rfl; have hcz13_5 : w11.cell? ⟨gb129, 5, none⟩ = some (.string (⟨#[]⟩ : ByteArray)) := (blk_cell BK129.out 5).trans rfl; have hfz13_0 := blk_frozen BK129.out 0; have hfz13_1 := blk_frozen BK129.out 1; have hfz13_2 := blk_frozen BK129.out 2; have hfz13_3 := blk_frozen BK129.out 3; have hfz13_4 := blk_frozen BK129.out 4; have hfz13_5 := blk_frozen BK129.out 5))
        refine bodyPost_ret (results_ct rfl _ _ gb129 33 #[.string ((rd_T33 l0_0 t130).f0), .bool ((rd_T33 l0_0 t130).f1), .int .i64 ((rd_T33 l0_0 t130).f2.f0), .int .i64 ((rd_T33 l0_0 t130).f2.f1), .int .i64 ((rd_T33 l0_0 t130).f2.f2), .string ((rd_T33 l0_0 t130).f2.f3)] (0, 0) _ rfl (bS (blk_put (bS (blk_put (bS (blk_put (bS (blk_put (bS (blk_put (bS (blk_put (bS BK129.out) 0 _ rfl)) 1 _ rfl)) 2 _ rfl)) 3 _ rfl)) 4 _ rfl)) 5 _ rfl)) Try.underlying33 rfl (by kernel_rfl)) rfl ?_
        exact ⟨by first | rfl | (simp [errW_none, errW_some] <;> rfl) | (simp [*, errW_none, errW_some] <;> rfl), by repeat (first | (with_reducible first | exact HB.out | apply below_alloc | apply pw_below_drewN | apply below_drew1 | refine below_set ?_ GE128.out | refine below_set ?_ GE129.out) | exact HB.out)⟩
      · rw [if_neg c6] at H
        exact absurd H (by simp)
    · rw [if_neg c5] at H
      exact absurd H (by simp)
  · replace c4 := Bool.eq_false_iff.mpr c4
    subst c4
    have H1 : (some ((⟨#[]⟩ : ByteArray), false, 0, 0, 0, (⟨#[]⟩ : ByteArray), false)) = some (r1, r2, r3, r4, r5, r6, r7) := by rw [if_neg (show ¬ (false = true) by decide)] at H; exact H
    clear H
    have H := H1
    clear H1
    simp only [Option.some.injEq, Prod.mk.injEq] at H
    obtain ⟨rfl, rfl, rfl, rfl, rfl, rfl, rfl⟩ := H
    go_enter Try.func17, Try.ntmps17
    go_wp2_with (first | ((with_reducible refine gate_dst (N := 2) rfl ?_); refine box_event ?hg (N := 2) ?hd (cs := #[.slice A0_0 l0_0.length c0_0, .bool a0_1]) (t := 24) ?hr ?_; (case hd => rfl); (case hg => rfl); (case hr => first | (go_simp; done) | (go_simp; rfl)); intro gb128 hg w14 hbox hb; have BK128 := Aside0.mk (hbox); have GW128 := Aside0.mk ((by rw [hg]; exact (below_size (hS HB.out)) : w.heap.size ≤ gb128)); have GE128 := Aside0.mk ((by rw [hg]; exact (below_size (hS HB.out)) : w.heap.size ≤ gb128)); replace HB := Aside0.mk (below_step (hS HB.out) hb); clear hb hbox hg) | ((with_reducible refine gate_dst (N := 4) rfl ?_); refine box_event ?hg (N := 4) ?hd (cs := #[.string (⟨#[]⟩ : ByteArray), .bool false, .int .i64 0, .int .i64 0, .int .i64 0, .string (⟨#[]⟩ : ByteArray)]) (t := 33) ?hr ?_; (case hd => rfl); (case hg => rfl); (case hr => first | (go_simp; done) | (go_simp; rfl)); intro gb129 hg w15 hbox hb; have BK129 := Aside0.mk (hbox); have GW129 := Aside0.mk ((by rw [hg]; exact (below_size (hS HB.out)) : w.heap.size ≤ gb129)); have GE129 := Aside0.mk ((by rw [hg]; exact (below_size (hS HB.out)) : w.heap.size ≤ gb129)); replace HB := Aside0.mk (below_step (hS HB.out) hb); have NB128_129 := Aside0.mk ((by rw [hg]; exact Nat.ne_of_lt (blk_lt (bS BK128.out)) : gb128 ≠ gb129)); have NB129_128 := Aside0.mk ((by rw [hg]; exact Nat.ne_of_gt (blk_lt (bS BK128.out)) : gb129 ≠ gb128)); replace BK128 := Aside0.mk (blk_below (bS BK128.out) hb); clear hb hbox hg; have hnb16 := NB128_129.out; have hnc16 := NB129_128.out; have hcz17_0 : w15.cell? ⟨gb128, 0, none⟩ = some (.slice A0_0 l0_0.length c0_0) := (blk_cell BK128.out 0).trans rfl; have hcz17_1 : w15.cell? ⟨gb128, 1, none⟩ = some (.bool a0_1) := (blk_cell BK128.out 1).trans rfl; have hfz17_0 := blk_frozen BK128.out 0; have hfz17_1 := blk_frozen BK128.out 1) | ((with_reducible refine gate_callee (f := 34) rfl ?_); refine goesL_ (some 12) rfl rfl Try.func34 (by kernel_rfl) rfl #[.slice A0_0 l0_0.length c0_0, .string a1, .func (.func 35) #[] #[]] rfl (by (try simp only [List.map_toArray, List.map_cons, List.map_nil]); first | done | rfl | (simp only [List.length_drop, List.length_take]; rfl)) ?_; (with_reducible refine (api_Change_string.calls _ _ l0_0 a1 t130 false _ ?side1 ?side2 A3.out).mono ?_); (case side1 => repeat (first | exact (Kd.C_below HR0_0.out HB.out) | (with_reducible refine Kd.C_alloc ?_ _) | (with_reducible refine Kd.C_drewN ?_ _) | (with_reducible refine Kd.C_drew ?_))); (case side2 => exact HC0_0.out); rintro e w18 ⟨rfl, hb⟩; refine ⟨_, rfl, ?_⟩; replace BK128 := Aside0.mk (blk_below (bS BK128.out) hb); replace BK129 := Aside0.mk (blk_below (bS BK129.out) hb); replace HB := Aside0.mk (below_step (hS HB.out) hb); (try clear hb); (try clear hb2); (try clear hk); (try clear hi); have hcz19_0 : w18.cell? ⟨gb129, 0, none⟩ = some (.string (⟨#[]⟩ : ByteArray)) := (blk_cell BK129.out 0).trans rfl; have hcz19_1 : w18.cell? ⟨gb129, 1, none⟩ = some (.bool false) := (blk_cell BK129.out 1).trans rfl; have hcz19_2 : w18.cell? ⟨gb129, 2, none⟩ = some (.int .i64 0) := (blk_cell BK129.out 2).trans rfl; have hcz19_3 : w18.cell? ⟨gb129, 3, none⟩ = some (.int .i64 0) := (blk_cell BK129.out 3).trans rfl; have hcz19_4 : w18.cell? ⟨gb129, 4, none⟩ = some (.int .i64 0) := (blk_cell BK129.out 4).trans rfl; have hcz19_5 : w18.cell? ⟨gb129, 5, none⟩ = some (.string (⟨#[]⟩ : ByteArray)) := (blk_cell BK129.out 5).trans rfl; have hfz19_0 := blk_frozen BK129.out 0; have hfz19_1 := blk_frozen BK129.out 1; have hfz19_2 := blk_frozen BK129.out 2; have hfz19_3 := blk_frozen BK129.out 3; have hfz19_4 := blk_frozen BK129.out 4; have hfz19_5 := blk_frozen BK129.out 5))
    refine bodyPost_ret (results_ct rfl _ _ gb129 33 #[.string (⟨#[]⟩ : ByteArray), .bool false, .int .i64 0, .int .i64 0, .int .i64 0, .string (⟨#[]⟩ : ByteArray)] (0, 0) _ rfl (bS (blk_put (bS (blk_put (bS (blk_put (bS (blk_put (bS (blk_put (bS (blk_put (bS BK129.out) 0 _ rfl)) 1 _ rfl)) 2 _ rfl)) 3 _ rfl)) 4 _ rfl)) 5 _ rfl)) Try.underlying33 rfl (by kernel_rfl)) rfl ?_
    exact ⟨by first | rfl | (simp [errW_none, errW_some] <;> rfl) | (simp [*, errW_none, errW_some] <;> rfl), by repeat (first | (with_reducible first | exact HB.out | apply below_alloc | apply pw_below_drewN | apply below_drew1 | refine below_set ?_ GE128.out | refine below_set ?_ GE129.out) | exact HB.out)⟩

/-! ### rollcallref05_SameChanges: function 37 -/
def rollcallref05_SameChanges.l0 : Nat → List (S33) → List (S33) → Int → Option (Bool)
  | 0, _, _, _ => none
  | k + 1, x0, x1, x5 => if x5 < (x0.length : Int) then (if 0 ≤ x5 then (if x5 < (x1.length : Int) then (if (!((((rd_T33 x0 x5).f0).toList) == (((rd_T33 x1 x5).f0).toList)) || (!(((rd_T33 x0 x5).f1) == ((rd_T33 x1 x5).f1)) || ((!(((rd_T33 x0 x5).f2.f0) == ((rd_T33 x1 x5).f2.f0)) || (!(((rd_T33 x0 x5).f2.f1) == ((rd_T33 x1 x5).f2.f1)) || (!(((rd_T33 x0 x5).f2.f2) == ((rd_T33 x1 x5).f2.f2)) || (!((((rd_T33 x0 x5).f2.f3).toList) == (((rd_T33 x1 x5).f2.f3).toList))))))))) = true then (some false) else (rollcallref05_SameChanges.l0 k x0 x1 (wrap64 (x5 + 1)))) else (none)) else (none)) else (some true)
def rollcallref05_SameChanges.f (k : Nat) (l0 : List (S33)) (l1 : List (S33)) : Option (Bool) := if (l0.length : Int) = (l1.length : Int) then (rollcallref05_SameChanges.l0 k l0 l1 0) else (some false)
theorem rollcallref05_SameChanges.mono_l : ∀ k, (∀ y0 y1 y2, LeO (rollcallref05_SameChanges.l0 k y0 y1 y2) (rollcallref05_SameChanges.l0 (k + 1) y0 y1 y2))
  | 0 => fun _ _ _ r h => by simp [rollcallref05_SameChanges.l0] at h
  | k + 1 => by
    have ih0 := rollcallref05_SameChanges.mono_l k
    · intro y0 y1 y2
      unfold rollcallref05_SameChanges.l0
      repeat' first
      | (with_reducible exact ih0 _ _ _)
      | (with_reducible exact LeO.refl _)
      | (with_reducible exact LeO.none _)
      | (with_reducible refine LeO.ite ?_ ?_)
      | (with_reducible refine LeO.bind ?_ (fun _ => ?_))
      | exact ih0 _ _ _
      | exact LeO.none _
      | refine LeO.ite ?_ ?_
      | refine LeO.bind ?_ (fun _ => ?_)
theorem rollcallref05_SameChanges.mono : ∀ a0 a1 k, LeO (rollcallref05_SameChanges.f k a0 a1) (rollcallref05_SameChanges.f (k + 1) a0 a1) := by
  intro a0 a1 k
  have ih0 := rollcallref05_SameChanges.mono_l k
  unfold rollcallref05_SameChanges.f
  repeat' first
      | (with_reducible exact ih0 _ _ _)
      | (with_reducible exact LeO.refl _)
      | (with_reducible exact LeO.none _)
      | (with_reducible refine LeO.ite ?_ ?_)
      | (with_reducible refine LeO.bind ?_ (fun _ => ?_))
      | exact ih0 _ _ _
      | exact LeO.none _
      | refine LeO.ite ?_ ?_
      | refine LeO.bind ?_ (fun _ => ?_)
set_option maxHeartbeats 8000000 in
set_option maxRecDepth 100000 in
theorem rollcallref05_SameChanges.calls (k : Nat) (A0 : Option Addr) (c0 : Nat) (l0 : List (S33)) (A1 : Option Addr) (c1 : Nat) (l1 : List (S33)) (r : Bool) (w : World) (hr0 : Kd.C k33 w A0 l0.length l0) (hc0 : l0.length ≤ c0) (hr1 : Kd.C k33 w A1 l1.length l1) (hc1 : l1.length ≤ c1) (h : rollcallref05_SameChanges.f k l0 l1 = some r) :
    Calls Try.prog 37 #[.slice A0 l0.length c0, .slice A1 l1.length c1] w fun e w' => e = .returned (.bool r) ∧ Drawn0 w w' := by
  have hu33 := Try.underlying33
  have HR0 := Aside0.mk hr0
  have HC0 := Aside0.mk hc0
  clear hr0 hc0
  have HR1 := Aside0.mk hr1
  have HC1 := Aside0.mk hc1
  clear hr1 hc1
  have H : (if (l0.length : Int) = (l1.length : Int) then (rollcallref05_SameChanges.l0 k l0 l1 0) else (some false)) = some r := h
  clear h
  by_cases c3 : (l0.length : Int) = (l1.length : Int)
  · rw [if_pos c3] at H
    have c3b0 : ((l0.length : Int) == (l1.length : Int)) = true := beq_iff_eq.mpr c3
    have c3b1 : ((l0.length : Int) != (l1.length : Int)) = false := bne_eq_false_iff_eq.mpr c3
    have c3b2 : (l0.length == l1.length) = true := by first | simpa using c3 | (simp at c3 ⊢; omega)
    clear c3
    have H' := Aside0.mk H
    clear H
    go_enter Try.func37, Try.ntmps37
    go_wp2
    repeat (go_quiet (fail); try go_wp2)
    go_loopg [5] k (fun kq v5 w' => ∃ (x5_1 : Int), v5 = .int .i64 x5_1 ∧ Aside0 (rollcallref05_SameChanges.l0 kq l0 l1 x5_1 = some r) ∧ Aside0 (kq ≤ k) ∧ Drawn0 w w')
    case atStart => exact ⟨(0), (by first | rfl | (simp; done) | (simp [*]; done)), H', ⟨Nat.le_refl _⟩, by repeat (first | exact Drawn0.refl _ | apply Drawn0.step)⟩
    case round =>
      clear H'
      try clear c1
      try clear p2
      try clear c3
      try clear c3b0
      try clear c3b1
      try clear c3b2
      obtain ⟨x5_1, rfl, HA, HK1, ⟨m1, rfl⟩⟩ := hrel
      cases gk with
      | zero => exact absurd HA.out (by simp [rollcallref05_SameChanges.l0])
      | succ k1 =>
        have H := HA.out
        clear HA
        simp only [rollcallref05_SameChanges.l0] at H
        by_cases c4 : x5_1 < (l0.length : Int)
        · rw [if_pos c4] at H
          have c4b0 : decide (x5_1 < (l0.length : Int)) = true := decide_eq_true c4
          clear c4
          by_cases c5 : 0 ≤ x5_1
          · rw [if_pos c5] at H
            have c5b0 : decide (0 ≤ x5_1) = true := decide_eq_true c5
            clear c5
            by_cases c6 : x5_1 < (l1.length : Int)
            · rw [if_pos c6] at H
              have c6b0 : decide (x5_1 < (l1.length : Int)) = true := decide_eq_true c6
              clear c6
              by_cases c7 : (!((((rd_T33 l0 x5_1).f0).toList) == (((rd_T33 l1 x5_1).f0).toList)) || (!(((rd_T33 l0 x5_1).f1) == ((rd_T33 l1 x5_1).f1)) || ((!(((rd_T33 l0 x5_1).f2.f0) == ((rd_T33 l1 x5_1).f2.f0)) || (!(((rd_T33 l0 x5_1).f2.f1) == ((rd_T33 l1 x5_1).f2.f1)) || (!(((rd_T33 l0 x5_1).f2.f2) == ((rd_T33 l1 x5_1).f2.f2)) || (!((((rd_T33 l0 x5_1).f2.f3).toList) == (((rd_T33 l1 x5_1).f2.f3).toList))))))))) = true
              · rw [if_pos c7] at H
                have c7b0 : (!((((rd_T33 l0 x5_1).f0).toList) == (((rd_T33 l1 x5_1).f0).toList)) || (!(((rd_T33 l0 x5_1).f1) == ((rd_T33 l1 x5_1).f1)) || ((!(((rd_T33 l0 x5_1).f2.f0) == ((rd_T33 l1 x5_1).f2.f0)) || (!(((rd_T33 l0 x5_1).f2.f1) == ((rd_T33 l1 x5_1).f2.f1)) || (!(((rd_T33 l0 x5_1).f2.f2) == ((rd_T33 l1 x5_1).f2.f2)) || (!((((rd_T33 l0 x5_1).f2.f3).toList) == (((rd_T33 l1 x5_1).f2.f3).toList))))))))) = true := c7
                clear c7
                obtain rfl := Option.some.inj H
                have p133 : 0 ≤ (x5_1 : Int) := of_decide_eq_true (by first | (with_reducible assumption) | assumption)
                have q133 : x5_1 < (l0.length : Int) := of_decide_eq_true (by first | (with_reducible assumption) | assumption)
                obtain ⟨ad133, e133, hx133_0, hx133_1, hx133_2, hx133_3, hx133_4, hx133_5⟩ := at_T33 HR0.out x5_1 p133 q133
                cases e133
                replace p133 := eq_true p133
                replace q133 := eq_true q133
                have p134 : 0 ≤ (x5_1 : Int) := of_decide_eq_true (by first | (with_reducible assumption) | assumption)
                have q134 : x5_1 < (l1.length : Int) := of_decide_eq_true (by first | (with_reducible assumption) | assumption)
                obtain ⟨ad134, e134, hx134_0, hx134_1, hx134_2, hx134_3, hx134_4, hx134_5⟩ := at_T33 HR1.out x5_1 p134 q134
                cases e134
                replace p134 := eq_true p134
                replace q134 := eq_true q134
                go_wp2
                repeat (go_quiet (fail); try go_wp2)
                go_ret
                exact ⟨by first | rfl | (simp; done) | (simp [*]; done), by repeat (first | exact Drawn0.refl _ | apply Drawn0.step)⟩
              · rw [if_neg c7] at H
                have c7b0 : (!((((rd_T33 l0 x5_1).f0).toList) == (((rd_T33 l1 x5_1).f0).toList)) || (!(((rd_T33 l0 x5_1).f1) == ((rd_T33 l1 x5_1).f1)) || ((!(((rd_T33 l0 x5_1).f2.f0) == ((rd_T33 l1 x5_1).f2.f0)) || (!(((rd_T33 l0 x5_1).f2.f1) == ((rd_T33 l1 x5_1).f2.f1)) || (!(((rd_T33 l0 x5_1).f2.f2) == ((rd_T33 l1 x5_1).f2.f2)) || (!((((rd_T33 l0 x5_1).f2.f3).toList) == (((rd_T33 l1 x5_1).f2.f3).toList))))))))) = false := by simpa using c7
                clear c7
                have H' := Aside0.mk H
                clear H
                have p133 : 0 ≤ (x5_1 : Int) := of_decide_eq_true (by first | (with_reducible assumption) | assumption)
                have q133 : x5_1 < (l0.length : Int) := of_decide_eq_true (by first | (with_reducible assumption) | assumption)
                obtain ⟨ad133, e133, hx133_0, hx133_1, hx133_2, hx133_3, hx133_4, hx133_5⟩ := at_T33 HR0.out x5_1 p133 q133
                cases e133
                replace p133 := eq_true p133
                replace q133 := eq_true q133
                have p134 : 0 ≤ (x5_1 : Int) := of_decide_eq_true (by first | (with_reducible assumption) | assumption)
                have q134 : x5_1 < (l1.length : Int) := of_decide_eq_true (by first | (with_reducible assumption) | assumption)
                obtain ⟨ad134, e134, hx134_0, hx134_1, hx134_2, hx134_3, hx134_4, hx134_5⟩ := at_T33 HR1.out x5_1 p134 q134
                cases e134
                replace p134 := eq_true p134
                replace q134 := eq_true q134
                go_wp2
                repeat (go_quiet (fail); try go_wp2)
                go_roundg k1
                case measure => have := HK1.out; omega
                case rel => exact ⟨(wrap64 (x5_1 + 1)), (by first | rfl | (simp; done) | (simp [*]; done)), H', ⟨by have := HK1.out; omega⟩, by repeat (first | exact Drawn0.refl _ | apply Drawn0.step)⟩
            · rw [if_neg c6] at H
              exact absurd H (by simp)
          · rw [if_neg c5] at H
            exact absurd H (by simp)
        · rw [if_neg c4] at H
          have c4b0 : decide (x5_1 < (l0.length : Int)) = false := decide_eq_false c4
          clear c4
          obtain rfl := Option.some.inj H
          go_wp2
          repeat (go_quiet (fail); try go_wp2)
          go_ret
          exact ⟨by first | rfl | (simp; done) | (simp [*]; done), by repeat (first | exact Drawn0.refl _ | apply Drawn0.step)⟩
  · rw [if_neg c3] at H
    have c3b0 : ((l0.length : Int) == (l1.length : Int)) = false := beq_eq_false_iff_ne.mpr c3
    have c3b1 : ((l0.length : Int) != (l1.length : Int)) = true := bne_iff_ne.mpr c3
    have c3b2 : (l0.length == l1.length) = false := by first | simpa using c3 | (simp at c3 ⊢; omega)
    obtain rfl := Option.some.inj H
    go_enter Try.func37, Try.ntmps37
    go_wp2
    repeat (go_quiet (fail); try go_wp2)
    go_ret
    exact ⟨by first | rfl | (simp; done) | (simp [*]; done), by repeat (first | exact Drawn0.refl _ | apply Drawn0.step)⟩

/-! ### rollcallref17_Same: function 19 -/
def rollcallref17_Same.f (k : Nat) (l0_0 : List (S33)) (a0_1 : Bool) (l1_0 : List (S33)) (a1_1 : Bool) : Option (Bool) := if (a0_1 == a1_1) = true then ((rollcallref05_SameChanges.f k l0_0 l1_0).bind fun t137 => (some t137)) else (some false)
theorem rollcallref17_Same.mono : ∀ a0 a1 a2 a3 k, LeO (rollcallref17_Same.f k a0 a1 a2 a3) (rollcallref17_Same.f (k + 1) a0 a1 a2 a3) := by
  intro a0 a1 a2 a3 k
  unfold rollcallref17_Same.f
  repeat' first
      | (with_reducible exact rollcallref05_SameChanges.mono _ _ _)
      | (with_reducible exact LeO.refl _)
      | (with_reducible exact LeO.none _)
      | (with_reducible refine LeO.ite ?_ ?_)
      | (with_reducible refine LeO.bind ?_ (fun _ => ?_))
      | exact rollcallref05_SameChanges.mono _ _ _
      | exact LeO.none _
      | refine LeO.ite ?_ ?_
      | refine LeO.bind ?_ (fun _ => ?_)
set_option maxHeartbeats 8000000 in
set_option maxRecDepth 100000 in
theorem rollcallref17_Same.calls (k : Nat) (A0_0 : Option Addr) (c0_0 : Nat) (l0_0 : List (S33)) (a0_1 : Bool) (A1_0 : Option Addr) (c1_0 : Nat) (l1_0 : List (S33)) (a1_1 : Bool) (r : Bool) (w : World) (hr0_0 : Kd.C k33 w A0_0 l0_0.length l0_0) (hc0_0 : l0_0.length ≤ c0_0) (hr1_0 : Kd.C k33 w A1_0 l1_0.length l1_0) (hc1_0 : l1_0.length ≤ c1_0) (h : rollcallref17_Same.f k l0_0 a0_1 l1_0 a1_1 = some r) :
    Calls Try.prog 19 #[.agg #[.slice A0_0 l0_0.length c0_0, .bool a0_1], .agg #[.slice A1_0 l1_0.length c1_0, .bool a1_1]] w fun e w' => e = .returned (.bool r) ∧ Below w.heap.size w w' := by
  have hu24 := Try.underlying24
  have HR0_0 := Aside0.mk hr0_0
  have HC0_0 := Aside0.mk hc0_0
  clear hr0_0 hc0_0
  have HR1_0 := Aside0.mk hr1_0
  have HC1_0 := Aside0.mk hc1_0
  clear hr1_0 hc1_0
  have HB := Aside0.mk (Below.refl w.heap.size w)
  have H : (if (a0_1 == a1_1) = true then ((rollcallref05_SameChanges.f k l0_0 l1_0).bind fun t137 => (some t137)) else (some false)) = some r := h
  clear h
  by_cases c3 : (a0_1 == a1_1) = true
  · rw [if_pos c3] at H
    have c3b0 : (a0_1 == a1_1) = true := c3
    (try (have c3b1 : decide (a0_1 = a1_1) = true := by simpa using c3))
    (try (have c3b2 : (a0_1 == a1_1) = true := by simpa using c3))
    clear c3
    replace H := Option.bind_eq_some_iff.mp H
    obtain ⟨t137, A40, H⟩ := H
    replace H : (some t137) = some r := H
    have A4 := Aside0.mk A40
    clear A40
    obtain rfl := Option.some.inj H
    go_enter Try.func19, Try.ntmps19
    go_wp2_with (first | ((with_reducible refine gate_dst (N := 2) rfl ?_); refine box_event ?hg (N := 2) ?hd (cs := #[.slice A0_0 l0_0.length c0_0, .bool a0_1]) (t := 24) ?hr ?_; (case hd => rfl); (case hg => rfl); (case hr => first | (go_simp; done) | (go_simp; rfl)); intro gb135 hg w5 hbox hb; have BK135 := Aside0.mk (hbox); have GW135 := Aside0.mk ((by rw [hg]; exact (below_size (hS HB.out)) : w.heap.size ≤ gb135)); have GE135 := Aside0.mk ((by rw [hg]; exact (below_size (hS HB.out)) : w.heap.size ≤ gb135)); replace HB := Aside0.mk (below_step (hS HB.out) hb); clear hb hbox hg) | ((with_reducible refine gate_dst (N := 3) rfl ?_); refine box_event ?hg (N := 3) ?hd (cs := #[.slice A1_0 l1_0.length c1_0, .bool a1_1]) (t := 24) ?hr ?_; (case hd => rfl); (case hg => rfl); (case hr => first | (go_simp; done) | (go_simp; rfl)); intro gb136 hg w6 hbox hb; have BK136 := Aside0.mk (hbox); have GW136 := Aside0.mk ((by rw [hg]; exact (below_size (hS HB.out)) : w.heap.size ≤ gb136)); have GE136 := Aside0.mk ((by rw [hg]; exact (below_size (hS HB.out)) : w.heap.size ≤ gb136)); replace HB := Aside0.mk (below_step (hS HB.out) hb); have NB135_136 := Aside0.mk ((by rw [hg]; exact Nat.ne_of_lt (blk_lt (bS BK135.out)) : gb135 ≠ gb136)); have NB136_135 := Aside0.mk ((by rw [hg]; exact Nat.ne_of_gt (blk_lt (bS BK135.out)) : gb136 ≠ gb135)); replace BK135 := Aside0.mk (blk_below (bS BK135.out) hb); clear hb hbox hg; have hnb7 := NB135_136.out; have hnc7 := NB136_135.out; have hcz8_0 : w6.cell? ⟨gb135, 0, none⟩ = some (.slice A0_0 l0_0.length c0_0) := (blk_cell BK135.out 0).trans rfl; have hcz8_1 : w6.cell? ⟨gb135, 1, none⟩ = some (.bool a0_1) := (blk_cell BK135.out 1).trans rfl; have hfz8_0 := blk_frozen BK135.out 0; have hfz8_1 := blk_frozen BK135.out 1; have hcz9_0 : w6.cell? ⟨gb136, 0, none⟩ = some (.slice A1_0 l1_0.length c1_0) := (blk_cell BK136.out 0).trans rfl; have hcz9_1 : w6.cell? ⟨gb136, 1, none⟩ = some (.bool a1_1) := (blk_cell BK136.out 1).trans rfl; have hfz9_0 := blk_frozen BK136.out 0; have hfz9_1 := blk_frozen BK136.out 1) | (go_at_call 37; (with_reducible refine (rollcallref05_SameChanges.calls k _ _ l0_0 _ _ l1_0 t137 _ ?side1 ?side2 ?side3 ?side4 A4.out).mono ?_); (case side1 => repeat (first | exact (Kd.C_below HR0_0.out HB.out) | (with_reducible refine Kd.C_alloc ?_ _) | (with_reducible refine Kd.C_drewN ?_ _) | (with_reducible refine Kd.C_drew ?_))); (case side2 => exact HC0_0.out); (case side3 => repeat (first | exact (Kd.C_below HR1_0.out HB.out) | (with_reducible refine Kd.C_alloc ?_ _) | (with_reducible refine Kd.C_drewN ?_ _) | (with_reducible refine Kd.C_drew ?_))); (case side4 => exact HC1_0.out); rintro e w' ⟨rfl, ⟨nd, rfl⟩⟩))
    go_ret
    exact ⟨by first | rfl | (simp [errW_none, errW_some] <;> rfl) | (simp [*, errW_none, errW_some] <;> rfl), by repeat (first | (with_reducible first | exact HB.out | apply below_alloc | apply pw_below_drewN | apply below_drew1 | refine below_set ?_ GE135.out | refine below_set ?_ GE136.out) | exact HB.out)⟩
  · rw [if_neg c3] at H
    have c3b0 : (a0_1 == a1_1) = false := by simpa using c3
    (try (have c3b1 : decide (a0_1 = a1_1) = false := by simpa using c3))
    (try (have c3b2 : (a0_1 == a1_1) = false := by simpa using c3))
    (try (have c3b3 : ¬ (a0_1 = a1_1) := by simpa using c3))
    clear c3
    obtain rfl := Option.some.inj H
    go_enter Try.func19, Try.ntmps19
    go_wp2_with (first | ((with_reducible refine gate_dst (N := 2) rfl ?_); refine box_event ?hg (N := 2) ?hd (cs := #[.slice A0_0 l0_0.length c0_0, .bool a0_1]) (t := 24) ?hr ?_; (case hd => rfl); (case hg => rfl); (case hr => first | (go_simp; done) | (go_simp; rfl)); intro gb135 hg w10 hbox hb; have BK135 := Aside0.mk (hbox); have GW135 := Aside0.mk ((by rw [hg]; exact (below_size (hS HB.out)) : w.heap.size ≤ gb135)); have GE135 := Aside0.mk ((by rw [hg]; exact (below_size (hS HB.out)) : w.heap.size ≤ gb135)); replace HB := Aside0.mk (below_step (hS HB.out) hb); clear hb hbox hg) | ((with_reducible refine gate_dst (N := 3) rfl ?_); refine box_event ?hg (N := 3) ?hd (cs := #[.slice A1_0 l1_0.length c1_0, .bool a1_1]) (t := 24) ?hr ?_; (case hd => rfl); (case hg => rfl); (case hr => first | (go_simp; done) | (go_simp; rfl)); intro gb136 hg w11 hbox hb; have BK136 := Aside0.mk (hbox); have GW136 := Aside0.mk ((by rw [hg]; exact (below_size (hS HB.out)) : w.heap.size ≤ gb136)); have GE136 := Aside0.mk ((by rw [hg]; exact (below_size (hS HB.out)) : w.heap.size ≤ gb136)); replace HB := Aside0.mk (below_step (hS HB.out) hb); have NB135_136 := Aside0.mk ((by rw [hg]; exact Nat.ne_of_lt (blk_lt (bS BK135.out)) : gb135 ≠ gb136)); have NB136_135 := Aside0.mk ((by rw [hg]; exact Nat.ne_of_gt (blk_lt (bS BK135.out)) : gb136 ≠ gb135)); replace BK135 := Aside0.mk (blk_below (bS BK135.out) hb); clear hb hbox hg; have hnb12 := NB135_136.out; have hnc12 := NB136_135.out; have hcz13_0 : w11.cell? ⟨gb135, 0, none⟩ = some (.slice A0_0 l0_0.length c0_0) := (blk_cell BK135.out 0).trans rfl; have hcz13_1 : w11.cell? ⟨gb135, 1, none⟩ = some (.bool a0_1) := (blk_cell BK135.out 1).trans rfl; have hfz13_0 := blk_frozen BK135.out 0; have hfz13_1 := blk_frozen BK135.out 1; have hcz14_0 : w11.cell? ⟨gb136, 0, none⟩ = some (.slice A1_0 l1_0.length c1_0) := (blk_cell BK136.out 0).trans rfl; have hcz14_1 : w11.cell? ⟨gb136, 1, none⟩ = some (.bool a1_1) := (blk_cell BK136.out 1).trans rfl; have hfz14_0 := blk_frozen BK136.out 0; have hfz14_1 := blk_frozen BK136.out 1))
    go_ret
    exact ⟨by first | rfl | (simp [errW_none, errW_some] <;> rfl) | (simp [*, errW_none, errW_some] <;> rfl), by repeat (first | (with_reducible first | exact HB.out | apply below_alloc | apply pw_below_drewN | apply below_drew1 | refine below_set ?_ GE135.out | refine below_set ?_ GE136.out) | exact HB.out)⟩

/-! ### queue_Empty: function 20 -/
def queue_Empty.f (l0_0 : List (S33)) (a0_1 : Bool) : Option (Bool) := if (l0_0.length : Int) = 0 then (some (!a0_1)) else (some false)
set_option maxHeartbeats 8000000 in
set_option maxRecDepth 100000 in
theorem queue_Empty.calls (A0_0 : Option Addr) (c0_0 : Nat) (l0_0 : List (S33)) (a0_1 : Bool) (r : Bool) (w : World) (hr0_0 : Kd.C k33 w A0_0 l0_0.length l0_0) (hc0_0 : l0_0.length ≤ c0_0) (h : queue_Empty.f l0_0 a0_1 = some r) :
    Calls Try.prog 20 #[.agg #[.slice A0_0 l0_0.length c0_0, .bool a0_1]] w fun e w' => e = .returned (.bool r) ∧ Below w.heap.size w w' := by
  have hu24 := Try.underlying24
  have HR0_0 := Aside0.mk hr0_0
  have HC0_0 := Aside0.mk hc0_0
  clear hr0_0 hc0_0
  have HB := Aside0.mk (Below.refl w.heap.size w)
  have H : (if (l0_0.length : Int) = 0 then (some (!a0_1)) else (some false)) = some r := h
  clear h
  by_cases c2 : (l0_0.length : Int) = 0
  · rw [if_pos c2] at H
    have c2b0 : ((l0_0.length : Int) == 0) = true := beq_iff_eq.mpr c2
    have c2b1 : ((l0_0.length : Int) != 0) = false := bne_eq_false_iff_eq.mpr c2
    clear c2
    obtain rfl := Option.some.inj H
    go_enter Try.func20, Try.ntmps20
    go_wp2_with (first | ((with_reducible refine gate_dst (N := 1) rfl ?_); refine box_event ?hg (N := 1) ?hd (cs := #[.slice A0_0 l0_0.length c0_0, .bool a0_1]) (t := 24) ?hr ?_; (case hd => rfl); (case hg => rfl); (case hr => first | (go_simp; done) | (go_simp; rfl)); intro gb138 hg w3 hbox hb; have BK138 := Aside0.mk (hbox); have GW138 := Aside0.mk ((by rw [hg]; exact (below_size (hS HB.out)) : w.heap.size ≤ gb138)); have GE138 := Aside0.mk ((by rw [hg]; exact (below_size (hS HB.out)) : w.heap.size ≤ gb138)); replace HB := Aside0.mk (below_step (hS HB.out) hb); clear hb hbox hg; have hcz4_0 : w3.cell? ⟨gb138, 0, none⟩ = some (.slice A0_0 l0_0.length c0_0) := (blk_cell BK138.out 0).trans rfl; have hcz4_1 : w3.cell? ⟨gb138, 1, none⟩ = some (.bool a0_1) := (blk_cell BK138.out 1).trans rfl; have hfz4_0 := blk_frozen BK138.out 0; have hfz4_1 := blk_frozen BK138.out 1))
    go_ret
    exact ⟨by first | rfl | (simp [errW_none, errW_some] <;> rfl) | (simp [*, errW_none, errW_some] <;> rfl), by repeat (first | (with_reducible first | exact HB.out | apply below_alloc | apply pw_below_drewN | apply below_drew1 | refine below_set ?_ GE138.out) | exact HB.out)⟩
  · rw [if_neg c2] at H
    have c2b0 : ((l0_0.length : Int) == 0) = false := beq_eq_false_iff_ne.mpr c2
    have c2b1 : ((l0_0.length : Int) != 0) = true := bne_iff_ne.mpr c2
    have c2b2 : ¬ (l0_0 = []) := fun h_ => c2 (by rw [h_]; rfl)
    obtain rfl := Option.some.inj H
    go_enter Try.func20, Try.ntmps20
    go_wp2_with (first | ((with_reducible refine gate_dst (N := 1) rfl ?_); refine box_event ?hg (N := 1) ?hd (cs := #[.slice A0_0 l0_0.length c0_0, .bool a0_1]) (t := 24) ?hr ?_; (case hd => rfl); (case hg => rfl); (case hr => first | (go_simp; done) | (go_simp; rfl)); intro gb138 hg w5 hbox hb; have BK138 := Aside0.mk (hbox); have GW138 := Aside0.mk ((by rw [hg]; exact (below_size (hS HB.out)) : w.heap.size ≤ gb138)); have GE138 := Aside0.mk ((by rw [hg]; exact (below_size (hS HB.out)) : w.heap.size ≤ gb138)); replace HB := Aside0.mk (below_step (hS HB.out) hb); clear hb hbox hg; have hcz6_0 : w5.cell? ⟨gb138, 0, none⟩ = some (.slice A0_0 l0_0.length c0_0) := (blk_cell BK138.out 0).trans rfl; have hcz6_1 : w5.cell? ⟨gb138, 1, none⟩ = some (.bool a0_1) := (blk_cell BK138.out 1).trans rfl; have hfz6_0 := blk_frozen BK138.out 0; have hfz6_1 := blk_frozen BK138.out 1))
    go_ret
    exact ⟨by first | rfl | (simp [errW_none, errW_some] <;> rfl) | (simp [*, errW_none, errW_some] <;> rfl), by repeat (first | (with_reducible first | exact HB.out | apply below_alloc | apply pw_below_drewN | apply below_drew1 | refine below_set ?_ GE138.out) | exact HB.out)⟩

/-! ### digest_Set: function 29 -/
abbrev digest_Set.f := @Go.Proofs.Ythcmelchgnekpaa.XSet.digest_Set.f
set_option maxHeartbeats 1000000 in
theorem digest_Set.calls (A0 : Option Addr) (c0 : Nat) (l0 : List (S52)) (a1_0 : ByteArray) (a1_1 : Bool) (a1_2 : Int) (a1_3 : Int) (a1_4 : Int) (a1_5 : ByteArray) (r : List (S52)) (w : World) (hr0 : Kd.C k52 w A0 l0.length l0) (hc0 : l0.length ≤ c0) (h : digest_Set.f l0 a1_0 a1_1 a1_2 a1_3 a1_4 a1_5 = some r) :
    Calls Try.prog 29 #[.slice A0 l0.length c0, .agg #[.string a1_0, .bool a1_1, .int .i64 a1_2, .int .i64 a1_3, .int .i64 a1_4, .string a1_5]] w fun e w' => ∃ v0_ : Value, e = .returned (v0_) ∧ Kd.R k52 52 w' w.heap.size (fun _ => True) v0_ r ∧ Below w.heap.size w w' := Go.Proofs.Ythcmelchgnekpaa.XSet.digest_Set.calls A0 c0 l0 a1_0 a1_1 a1_2 a1_3 a1_4 a1_5 r w hr0 hc0 h

/-! ### queue_Over: function 23 -/
def queue_Over.l0 : Nat → List (S52) → List (S33) → Int → Int → Option ((List (S52)))
  | 0, _, _, _, _ => none
  | k + 1, x0, x8, x9, x10 => if x10 < x9 then (if 0 ≤ x10 then (if x10 < (x8.length : Int) then ((digest_Set.f x0 ((rd_T33 x8 x10).f0) ((rd_T33 x8 x10).f1) ((rd_T33 x8 x10).f2.f0) ((rd_T33 x8 x10).f2.f1) ((rd_T33 x8 x10).f2.f2) ((rd_T33 x8 x10).f2.f3)).bind fun t142 => (queue_Over.l0 k t142 x8 x9 (wrap64 (x10 + 1)))) else (none)) else (none)) else (some x0)
def queue_Over.f (k : Nat) (l0 : List (S52)) (l1_0 : List (S33)) (a1_1 : Bool) : Option ((List (S52))) := queue_Over.l0 k l0 l1_0 (l1_0.length : Int) 0
theorem queue_Over.mono_l : ∀ k, (∀ y0 y1 y2 y3, LeO (queue_Over.l0 k y0 y1 y2 y3) (queue_Over.l0 (k + 1) y0 y1 y2 y3))
  | 0 => fun _ _ _ _ r h => by simp [queue_Over.l0] at h
  | k + 1 => by
    have ih0 := queue_Over.mono_l k
    · intro y0 y1 y2 y3
      unfold queue_Over.l0
      repeat' first
      | (with_reducible exact ih0 _ _ _ _)
      | (with_reducible exact LeO.refl _)
      | (with_reducible exact LeO.none _)
      | (with_reducible refine LeO.ite ?_ ?_)
      | (with_reducible refine LeO.bind ?_ (fun _ => ?_))
      | exact ih0 _ _ _ _
      | exact LeO.none _
      | refine LeO.ite ?_ ?_
      | refine LeO.bind ?_ (fun _ => ?_)
theorem queue_Over.mono : ∀ a0 a1 a2 k, LeO (queue_Over.f k a0 a1 a2) (queue_Over.f (k + 1) a0 a1 a2) := by
  intro a0 a1 a2 k
  have ih0 := queue_Over.mono_l k
  unfold queue_Over.f
  repeat' first
      | (with_reducible exact ih0 _ _ _ _)
      | (with_reducible exact LeO.refl _)
      | (with_reducible exact LeO.none _)
      | (with_reducible refine LeO.ite ?_ ?_)
      | (with_reducible refine LeO.bind ?_ (fun _ => ?_))
      | exact ih0 _ _ _ _
      | exact LeO.none _
      | refine LeO.ite ?_ ?_
      | refine LeO.bind ?_ (fun _ => ?_)
set_option maxHeartbeats 8000000 in
set_option maxRecDepth 100000 in
theorem queue_Over.calls (k : Nat) (P0_ : Nat → Prop) (A0 : Option Addr) (c0 : Nat) (l0 : List (S52)) (A1_0 : Option Addr) (c1_0 : Nat) (l1_0 : List (S33)) (a1_1 : Bool) (r : List (S52)) (w : World) (hs0 : Kd.V k52 52 w w.heap.size (fun k_ => P0_ k_) (.slice A0 l0.length c0) l0) (hr1_0 : Kd.C k33 w A1_0 l1_0.length l1_0) (hc1_0 : l1_0.length ≤ c1_0) (h : queue_Over.f k l0 l1_0 a1_1 = some r) :
    Calls Try.prog 23 #[.slice A0 l0.length c0, .agg #[.slice A1_0 l1_0.length c1_0, .bool a1_1]] w fun e w' => ∃ v0_ : Value, e = .returned (v0_) ∧ Kd.V k52 52 w' w.heap.size (fun k_ => (P0_ k_ ∨ w.heap.size ≤ k_)) v0_ r ∧ Below w.heap.size w w' := by
  have hu24 := Try.underlying24
  have hu33 := Try.underlying33
  have HO0 := Aside0.mk (show Kd.V k52 52 w w.heap.size (fun k_ => (P0_ k_ ∨ w.heap.size ≤ k_)) (.slice A0 l0.length c0) l0 from Kd.V_mono hs0 (fun k_ hk => .inl hk))
  have HR1_0 := Aside0.mk hr1_0
  have HC1_0 := Aside0.mk hc1_0
  clear hr1_0 hc1_0
  have HB := Aside0.mk (Below.refl w.heap.size w)
  have H : (queue_Over.l0 k l0 l1_0 (l1_0.length : Int) 0) = some r := h
  clear h
  have H' := Aside0.mk H
  clear H
  go_enter Try.func23, Try.ntmps23
  go_wp2_with (first | ((with_reducible refine gate_dst (N := 3) rfl ?_); refine box_event ?hg (N := 3) ?hd (cs := #[.slice A1_0 l1_0.length c1_0, .bool a1_1]) (t := 24) ?hr ?_; (case hd => rfl); (case hg => rfl); (case hr => first | (go_simp; done) | (go_simp; rfl)); intro gb139 hg w3 hbox hb; replace HO0 := Aside0.mk (Kd.V_below (Kd.V_elderB (vS HO0.out) gb139 (Nat.le_of_eq hg.symm)) hb); have BK139 := Aside0.mk (hbox); have GW139 := Aside0.mk ((by rw [hg]; exact (below_size (hS HB.out)) : w.heap.size ≤ gb139)); have GE139 := Aside0.mk ((by rw [hg]; exact (below_size (hS HB.out)) : w.heap.size ≤ gb139)); replace HB := Aside0.mk (below_step (hS HB.out) hb); clear hb hbox hg; have hcz4_0 : w3.cell? ⟨gb139, 0, none⟩ = some (.slice A1_0 l1_0.length c1_0) := (blk_cell BK139.out 0).trans rfl; have hcz4_1 : w3.cell? ⟨gb139, 1, none⟩ = some (.bool a1_1) := (blk_cell BK139.out 1).trans rfl; have hfz4_0 := blk_frozen BK139.out 0; have hfz4_1 := blk_frozen BK139.out 1))
  go_loopg [0, 10] k (fun kq v0 v10 w' => ∃ (x0_1 : List (S52)) (x10_1 : Int), v10 = .int .i64 x10_1 ∧ Aside0 (queue_Over.l0 kq x0_1 l1_0 (l1_0.length : Int) x10_1 = some r) ∧ Aside0 (kq ≤ k) ∧ Aside0 (Kd.V k52 52 w' w.heap.size (fun k_ => (P0_ k_ ∨ w.heap.size ≤ k_) ∧ k_ ≠ gb139) v0 x0_1) ∧ Aside0 (w'.heap[gb139]? = some (.cells #[(.slice A1_0 l1_0.length c1_0), .bool a1_1] 24 (0, 0))) ∧ Aside0 (Below w.heap.size w w'))
  case atStart => exact ⟨(l0), (0), (by first | rfl | (simp; done) | (simp [*]; done)), H', ⟨Nat.le_refl _⟩, ⟨vS HO0.out⟩, ⟨bS BK139.out⟩, ⟨by repeat (first | (with_reducible first | exact HB.out | apply below_alloc | apply pw_below_drewN | apply below_drew1 | refine below_set ?_ GE139.out) | exact HB.out)⟩⟩
  case round =>
    clear H'
    try clear c1
    try clear c2
    try clear p2
    try clear hcz4_0
    try clear hcz4_1
    try clear hfz4_0
    try clear hfz4_1
    obtain ⟨x0_1, x10_1, rfl, HA, HK1, HO_0, BK139, HB⟩ := hrel
    cases gk with
    | zero => exact absurd HA.out (by simp [queue_Over.l0])
    | succ k1 =>
      have H := HA.out
      clear HA
      simp only [queue_Over.l0] at H
      by_cases c5 : x10_1 < (l1_0.length : Int)
      · rw [if_pos c5] at H
        have c5b0 : decide (x10_1 < (l1_0.length : Int)) = true := decide_eq_true c5
        clear c5
        by_cases c6 : 0 ≤ x10_1
        · rw [if_pos c6] at H
          have c6b0 : decide (0 ≤ x10_1) = true := decide_eq_true c6
          clear c6
          by_cases c7 : x10_1 < (l1_0.length : Int)
          · rw [if_pos c7] at H
            have c7b0 : decide (x10_1 < (l1_0.length : Int)) = true := decide_eq_true c7
            clear c7
            replace H := Option.bind_eq_some_iff.mp H
            obtain ⟨t142, A80, H⟩ := H
            replace H : (queue_Over.l0 k1 t142 l1_0 (l1_0.length : Int) (wrap64 (x10_1 + 1))) = some r := H
            have A8 := Aside0.mk A80
            clear A80
            have H' := Aside0.mk H
            clear H
            have p140 : 0 ≤ (x10_1 : Int) := of_decide_eq_true (by first | (with_reducible assumption) | assumption)
            have q140 : x10_1 < (l1_0.length : Int) := of_decide_eq_true (by first | (with_reducible assumption) | assumption)
            obtain ⟨ad140, e140, hx140_0, hx140_1, hx140_2, hx140_3, hx140_4, hx140_5⟩ := at_T33 HR1_0.out x10_1 p140 q140
            cases e140
            replace hx140_0 := (HB.out.cell (World.block_lt_of_cell? w _ hx140_0)).trans hx140_0
            replace hx140_1 := (HB.out.cell (World.block_lt_of_cell? w _ hx140_1)).trans hx140_1
            replace hx140_2 := (HB.out.cell (World.block_lt_of_cell? w _ hx140_2)).trans hx140_2
            replace hx140_3 := (HB.out.cell (World.block_lt_of_cell? w _ hx140_3)).trans hx140_3
            replace hx140_4 := (HB.out.cell (World.block_lt_of_cell? w _ hx140_4)).trans hx140_4
            replace hx140_5 := (HB.out.cell (World.block_lt_of_cell? w _ hx140_5)).trans hx140_5
            replace p140 := eq_true p140
            replace q140 := eq_true q140
            go_wp2_with (first | ((with_reducible refine gate_dst (N := 6) rfl ?_); refine box_event ?hg (N := 6) ?hd (cs := #[.string (⟨#[]⟩ : ByteArray), .bool false, .int .i64 0, .int .i64 0, .int .i64 0, .string (⟨#[]⟩ : ByteArray)]) (t := 33) ?hr ?_; (case hd => rfl); (case hg => rfl); (case hr => first | (go_simp; done) | (go_simp; rfl)); intro gb141 hg w9 hbox hb; replace HO_0 := Aside0.mk (Kd.V_below (Kd.V_elderB (vS HO_0.out) gb141 (Nat.le_of_eq hg.symm)) hb); have BK141 := Aside0.mk (hbox); have GW141 := Aside0.mk ((by rw [hg]; exact (below_size (hS HB.out)) : w.heap.size ≤ gb141)); have GE141 := Aside0.mk ((by rw [hg]; exact (below_size (hS HB.out)) : w.heap.size ≤ gb141)); replace HB := Aside0.mk (below_step (hS HB.out) hb); have NB139_141 := Aside0.mk ((by rw [hg]; exact Nat.ne_of_lt (blk_lt (bS BK139.out)) : gb139 ≠ gb141)); have NB141_139 := Aside0.mk ((by rw [hg]; exact Nat.ne_of_gt (blk_lt (bS BK139.out)) : gb141 ≠ gb139)); replace BK139 := Aside0.mk (blk_below (bS BK139.out) hb); clear hb hbox hg; have hnb10 := NB141_139.out; have hnc10 := NB139_141.out; have hcz11_0 : w9.cell? ⟨gb141, 0, none⟩ = some (.string (⟨#[]⟩ : ByteArray)) := (blk_cell BK141.out 0).trans rfl; have hcz11_1 : w9.cell? ⟨gb141, 1, none⟩ = some (.bool false) := (blk_cell BK141.out 1).trans rfl; have hcz11_2 : w9.cell? ⟨gb141, 2, none⟩ = some (.int .i64 0) := (blk_cell BK141.out 2).trans rfl; have hcz11_3 : w9.cell? ⟨gb141, 3, none⟩ = some (.int .i64 0) := (blk_cell BK141.out 3).trans rfl; have hcz11_4 : w9.cell? ⟨gb141, 4, none⟩ = some (.int .i64 0) := (blk_cell BK141.out 4).trans rfl; have hcz11_5 : w9.cell? ⟨gb141, 5, none⟩ = some (.string (⟨#[]⟩ : ByteArray)) := (blk_cell BK141.out 5).trans rfl; have hfz11_0 := blk_frozen BK141.out 0; have hfz11_1 := blk_frozen BK141.out 1; have hfz11_2 := blk_frozen BK141.out 2; have hfz11_3 := blk_frozen BK141.out 3; have hfz11_4 := blk_frozen BK141.out 4; have hfz11_5 := blk_frozen BK141.out 5; obtain ⟨Ao12, co12, eo12⟩ := Kd.V_slice HO_0.out; subst eo12) | ((with_reducible refine gate_callee (f := 29) rfl ?_); refine goesL_ (some 16) rfl rfl Try.func29 (by kernel_rfl) rfl #[.slice Ao12 x0_1.length co12, .agg #[.string ((rd_T33 l1_0 x10_1).f0), .bool ((rd_T33 l1_0 x10_1).f1), .int .i64 ((rd_T33 l1_0 x10_1).f2.f0), .int .i64 ((rd_T33 l1_0 x10_1).f2.f1), .int .i64 ((rd_T33 l1_0 x10_1).f2.f2), .string ((rd_T33 l1_0 x10_1).f2.f3)]] rfl (by (try simp only [List.map_toArray, List.map_cons, List.map_nil]); first | done | rfl | (simp only [List.length_drop, List.length_take]; rfl)) ?_; (with_reducible refine (digest_Set.calls _ _ x0_1 ((rd_T33 l1_0 x10_1).f0) ((rd_T33 l1_0 x10_1).f1) ((rd_T33 l1_0 x10_1).f2.f0) ((rd_T33 l1_0 x10_1).f2.f1) ((rd_T33 l1_0 x10_1).f2.f2) ((rd_T33 l1_0 x10_1).f2.f3) t142 _ ?side1 ?side2 A8.out).mono ?_); (case side1 => refine (Kd.V_reads' (e := 52) (base := w.heap.size) (ok := fun k_ => (((P0_ k_ ∨ w.heap.size ≤ k_) ∧ k_ ≠ gb139) ∧ k_ ≠ gb141)) (n := x0_1.length) (c := co12) ?_).2.2; exact (by (with_reducible repeat (first | apply Kd.V_alloc | apply Kd.V_drewN | apply Kd.V_drew)); exact (Kd.V_mono (vF (b := gb141) (Kd.V_mono HO_0.out (fun k_ hk => (⟨hk, hk.2⟩ : _ ∧ k_ ≠ gb141))) (fun _ hk => hk.2)) (fun _ h_ => h_.1)))); (case side2 => exact (Kd.V_reads' HO_0.out).2.1); rintro e w13 ⟨v143, rfl, ho0, hb⟩; refine ⟨_, rfl, ?_⟩; replace HO_0 := Aside0.mk (Kd.V_elder' (by (with_reducible repeat (first | apply Kd.V_alloc | apply Kd.V_drewN | apply Kd.V_drew)); exact (Kd.V_mono (vF (b := gb141) (Kd.V_mono HO_0.out (fun k_ hk => (⟨hk, hk.2⟩ : _ ∧ k_ ≠ gb141))) (fun _ hk => hk.2)) (fun _ h_ => h_.1))) (Kd.R_base ho0) hb); have HO144 := Aside0.mk (Kd.R_lower (Kd.R_newM (M := fun k_ => (w.heap.size ≤ k_)) ho0 (below_size (hF HB.out GE141.out)) (fun k_ h_ => h_)) (below_size (hF HB.out GE141.out))); replace BK139 := Aside0.mk (blk_below (bF (BK139.out) NB139_141.out) hb); replace BK141 := Aside0.mk (blk_below (g := gb141) (o := .cells #[.string ((rd_T33 l1_0 x10_1).f0), .bool ((rd_T33 l1_0 x10_1).f1), .int .i64 ((rd_T33 l1_0 x10_1).f2.f0), .int .i64 ((rd_T33 l1_0 x10_1).f2.f1), .int .i64 ((rd_T33 l1_0 x10_1).f2.f2), .string ((rd_T33 l1_0 x10_1).f2.f3)] 33 (0, 0)) (bS (blk_put (bS (blk_put (bS (blk_put (bS (blk_put (bS (blk_put (bS (blk_put (bS BK141.out) 0 _ rfl)) 1 _ rfl)) 2 _ rfl)) 3 _ rfl)) 4 _ rfl)) 5 _ rfl)) hb); replace HB := Aside0.mk (below_step (hF HB.out GE141.out) hb); (try clear hb); (try clear hb2); (try clear hk); (try clear hi); (try clear ho0)))
            go_roundg k1
            case measure => have := HK1.out; omega
            case rel => exact ⟨(t142), (wrap64 (x10_1 + 1)), (by first | rfl | (simp; done) | (simp [*]; done)), H', ⟨by have := HK1.out; omega⟩, ⟨Kd.V_mono (Kd.R_V (by (with_reducible repeat (first | apply Kd.R_alloc | apply Kd.R_drewN | apply Kd.R_drew)); exact (Kd.R_types HO144.out BK139.out (by decide)))) (fun k_ hk => by first | exact ⟨.inr hk.1.1, hk.2⟩ | exact ⟨(.inr (hk.1)), hk.2⟩ | exact (.inr (hk)))⟩, ⟨bS BK139.out⟩, ⟨by repeat (first | (with_reducible first | exact HB.out | apply below_alloc | apply pw_below_drewN | apply below_drew1 | refine below_set ?_ GE139.out | refine below_set ?_ GE141.out) | exact HB.out)⟩⟩
          · rw [if_neg c7] at H
            exact absurd H (by simp)
        · rw [if_neg c6] at H
          exact absurd H (by simp)
      · rw [if_neg c5] at H
        have c5b0 : decide (x10_1 < (l1_0.length : Int)) = false := decide_eq_false c5
        clear c5
        obtain rfl := Option.some.inj H
        go_wp2
        go_ret
        exact ⟨_, by first | rfl | (simp [errW_none, errW_some] <;> rfl) | (simp [*, errW_none, errW_some] <;> rfl), by (with_reducible repeat (first | apply Kd.V_alloc | apply Kd.V_drewN | apply Kd.V_drew)); exact Kd.V_mono HO_0.out (fun _ hk => hk.1), by repeat (first | (with_reducible first | exact HB.out | apply below_alloc | apply pw_below_drewN | apply below_drew1 | refine below_set ?_ GE139.out) | exact HB.out)⟩

/-! ### api_Change_39: function 39 -/
abbrev api_Change_39.f := @Go.Proofs.Ythcmelchgnekpaa.XCloneChg.slices_Clone.f
set_option maxHeartbeats 1000000 in
theorem api_Change_39.calls (A0 : Option Addr) (c0 : Nat) (l0 : List (S33)) (r : List (S33)) (w : World) (hr0 : Kd.C k33 w A0 l0.length l0) (hc0 : l0.length ≤ c0) (h : api_Change_39.f l0 = some r) :
    Calls Try.prog 39 #[.slice A0 l0.length c0] w fun e w' => ∃ v0_ : Value, e = .returned (v0_) ∧ Kd.R k33 33 w' w.heap.size (fun _ => True) v0_ r ∧ Below w.heap.size w w' := Go.Proofs.Ythcmelchgnekpaa.XCloneChg.slices_Clone.calls A0 c0 l0 r w hr0 hc0 h

/-! ### api_Change_40: function 40 -/
abbrev api_Change_40.f := @Go.Proofs.Ythcmelchgnekpaa.XConcatChg.slices_Concat.f
set_option maxHeartbeats 1000000 in
theorem api_Change_40.calls (A0 : Option Addr) (c0 : Nat) (l0 : List (List (S33))) (r : List (S33)) (w : World) (hr0 : Kd.C (Kd.slice 33 k33) w A0 l0.length l0) (hc0 : l0.length ≤ c0) (h : api_Change_40.f l0 = some r) :
    Calls Try.prog 40 #[.slice A0 l0.length c0] w fun e w' => ∃ v0_ : Value, e = .returned (v0_) ∧ Kd.R k33 33 w' w.heap.size (fun _ => True) v0_ r ∧ Below w.heap.size w w' := Go.Proofs.Ythcmelchgnekpaa.XConcatChg.slices_Concat.calls A0 c0 l0 r w hr0 hc0 h

/-! ### queue_Push: function 26 -/
def queue_Push.f (l0_0 : List (S33)) (a0_1 : Bool) (a1_0 : ByteArray) (a1_1 : Bool) (a1_2 : Int) (a1_3 : Int) (a1_4 : Int) (a1_5 : ByteArray) (a2 : Int) : Option ((List (S33)) × Bool) := if a0_1 = true then (some (l0_0, a0_1)) else ((api_Change_string.f l0_0 a1_0).bind fun bt148 => (if bt148.2 = true then ((api_Change_39.f l0_0).bind fun t150 => (if 0 ≤ bt148.1 then (if bt148.1 < (t150.length : Int) then (some ((t150.set (bt148.1 : Int).toNat (⟨a1_0, a1_1, (⟨a1_2, a1_3, a1_4, a1_5⟩ : S31)⟩ : S33)), a0_1)) else (none)) else (none))) else (if (l0_0.length : Int) < a2 then ((api_Change_40.f (([l0_0, (([(⟨a1_0, a1_1, (⟨a1_2, a1_3, a1_4, a1_5⟩ : S31)⟩ : S33)] : List (S33)))] : List (List (S33))))).bind fun t160 => (some (t160, a0_1))) else (some (([] : List (S33)), true)))))
set_option maxHeartbeats 8000000 in
set_option maxRecDepth 100000 in
theorem queue_Push.calls (P0_0_ : Nat → Prop) (A0_0 : Option Addr) (c0_0 : Nat) (l0_0 : List (S33)) (a0_1 : Bool) (a1_0 : ByteArray) (a1_1 : Bool) (a1_2 : Int) (a1_3 : Int) (a1_4 : Int) (a1_5 : ByteArray) (a2 : Int) (r1 : List (S33)) (r2 : Bool) (w : World) (hs0_0 : Kd.V k33 33 w w.heap.size (fun k_ => P0_0_ k_) (.slice A0_0 l0_0.length c0_0) l0_0) (h : queue_Push.f l0_0 a0_1 a1_0 a1_1 a1_2 a1_3 a1_4 a1_5 a2 = some (r1, r2)) :
    Calls Try.prog 26 #[.agg #[.slice A0_0 l0_0.length c0_0, .bool a0_1], .agg #[.string a1_0, .bool a1_1, .int .i64 a1_2, .int .i64 a1_3, .int .i64 a1_4, .string a1_5], .int .i64 a2] w fun e w' => ∃ v0_ : Value, e = .returned (.agg #[v0_, .bool r2]) ∧ Kd.V k33 33 w' w.heap.size (fun k_ => (P0_0_ k_ ∨ w.heap.size ≤ k_)) v0_ r1 ∧ Below w.heap.size w w' := by
  have hu24 := Try.underlying24
  have hu33 := Try.underlying33
  have HO0_0 := Aside0.mk (show Kd.V k33 33 w w.heap.size (fun k_ => (P0_0_ k_ ∨ w.heap.size ≤ k_)) (.slice A0_0 l0_0.length c0_0) l0_0 from Kd.V_mono hs0_0 (fun k_ hk => .inl hk))
  have HB := Aside0.mk (Below.refl w.heap.size w)
  have H : (if a0_1 = true then (some (l0_0, a0_1)) else ((api_Change_string.f l0_0 a1_0).bind fun bt148 => (if bt148.2 = true then ((api_Change_39.f l0_0).bind fun t150 => (if 0 ≤ bt148.1 then (if bt148.1 < (t150.length : Int) then (some ((t150.set (bt148.1 : Int).toNat (⟨a1_0, a1_1, (⟨a1_2, a1_3, a1_4, a1_5⟩ : S31)⟩ : S33)), a0_1)) else (none)) else (none))) else (if (l0_0.length : Int) < a2 then ((api_Change_40.f (([l0_0, (([(⟨a1_0, a1_1, (⟨a1_2, a1_3, a1_4, a1_5⟩ : S31)⟩ : S33)] : List (S33)))] : List (List (S33))))).bind fun t160 => (some (t160, a0_1))) else (some (([] : List (S33)), true)))))) = some (r1, r2) := h
  clear h
  by_cases c4 : a0_1 = true
  · subst c4
    have H1 : (some (l0_0, true)) = some (r1, r2) := by rw [if_pos rfl] at H; exact H
    clear H
    have H := H1
    clear H1
    simp only [Option.some.injEq, Prod.mk.injEq] at H
    obtain ⟨rfl, rfl⟩ := H
    go_enter Try.func26, Try.ntmps26
    go_wp2_with (first | ((with_reducible refine gate_dst (N := 3) rfl ?_); refine box_event ?hg (N := 3) ?hd (cs := #[.slice A0_0 l0_0.length c0_0, .bool true]) (t := 24) ?hr ?_; (case hd => rfl); (case hg => rfl); (case hr => first | (go_simp; done) | (go_simp; rfl)); intro gb145 hg w5 hbox hb; replace HO0_0 := Aside0.mk (Kd.V_below (Kd.V_elderB (vS HO0_0.out) gb145 (Nat.le_of_eq hg.symm)) hb); have BK145 := Aside0.mk (hbox); have GW145 := Aside0.mk ((by rw [hg]; exact (below_size (hS HB.out)) : w.heap.size ≤ gb145)); have GE145 := Aside0.mk ((by rw [hg]; exact (below_size (hS HB.out)) : w.heap.size ≤ gb145)); replace HB := Aside0.mk (below_step (hS HB.out) hb); clear hb hbox hg) | ((with_reducible refine gate_dst (N := 4) rfl ?_); refine box_event ?hg (N := 4) ?hd (cs := #[.string a1_0, .bool a1_1, .int .i64 a1_2, .int .i64 a1_3, .int .i64 a1_4, .string a1_5]) (t := 33) ?hr ?_; (case hd => rfl); (case hg => rfl); (case hr => first | (go_simp; done) | (go_simp; rfl)); intro gb146 hg w6 hbox hb; replace HO0_0 := Aside0.mk (Kd.V_below (Kd.V_elderB (vS HO0_0.out) gb146 (Nat.le_of_eq hg.symm)) hb); have BK146 := Aside0.mk (hbox); have GW146 := Aside0.mk ((by rw [hg]; exact (below_size (hS HB.out)) : w.heap.size ≤ gb146)); have GE146 := Aside0.mk ((by rw [hg]; exact (below_size (hS HB.out)) : w.heap.size ≤ gb146)); replace HB := Aside0.mk (below_step (hS HB.out) hb); have NB145_146 := Aside0.mk ((by rw [hg]; exact Nat.ne_of_lt (blk_lt (bS BK145.out)) : gb145 ≠ gb146)); have NB146_145 := Aside0.mk ((by rw [hg]; exact Nat.ne_of_gt (blk_lt (bS BK145.out)) : gb146 ≠ gb145)); replace BK145 := Aside0.mk (blk_below (bS BK145.out) hb); clear hb hbox hg) | ((with_reducible refine gate_dst (N := 6) rfl ?_); refine box_event ?hg (N := 6) ?hd (cs := #[.slice none 0 0, .bool false]) (t := 24) ?hr ?_; (case hd => rfl); (case hg => rfl); (case hr => first | (go_simp; done) | (go_simp; rfl)); intro gb147 hg w7 hbox hb; replace HO0_0 := Aside0.mk (Kd.V_below (Kd.V_elderB (vS HO0_0.out) gb147 (Nat.le_of_eq hg.symm)) hb); have BK147 := Aside0.mk (hbox); have GW147 := Aside0.mk ((by rw [hg]; exact (below_size (hS HB.out)) : w.heap.size ≤ gb147)); have GE147 := Aside0.mk ((by rw [hg]; exact (below_size (hS HB.out)) : w.heap.size ≤ gb147)); replace HB := Aside0.mk (below_step (hS HB.out) hb); have NB145_147 := Aside0.mk ((by rw [hg]; exact Nat.ne_of_lt (blk_lt (bS BK145.out)) : gb145 ≠ gb147)); have NB147_145 := Aside0.mk ((by rw [hg]; exact Nat.ne_of_gt (blk_lt (bS BK145.out)) : gb147 ≠ gb145)); replace BK145 := Aside0.mk (blk_below (bS BK145.out) hb); have NB146_147 := Aside0.mk ((by rw [hg]; exact Nat.ne_of_lt (blk_lt (bS BK146.out)) : gb146 ≠ gb147)); have NB147_146 := Aside0.mk ((by rw [hg]; exact Nat.ne_of_gt (blk_lt (bS BK146.out)) : gb147 ≠ gb146)); replace BK146 := Aside0.mk (blk_below (bS BK146.out) hb); clear hb hbox hg; have hnb8 := NB145_146.out; have hnc8 := NB146_145.out; have hnb9 := NB145_147.out; have hnc9 := NB147_145.out; have hcz10_0 : w7.cell? ⟨gb145, 0, none⟩ = some (.slice A0_0 l0_0.length c0_0) := (blk_cell BK145.out 0).trans rfl; have hcz10_1 : w7.cell? ⟨gb145, 1, none⟩ = some (.bool true) := (blk_cell BK145.out 1).trans rfl; have hfz10_0 := blk_frozen BK145.out 0; have hfz10_1 := blk_frozen BK145.out 1; have hnb11 := NB147_146.out; have hnc11 := NB146_147.out; have hcz12_0 : w7.cell? ⟨gb147, 0, none⟩ = some (.slice none 0 0) := (blk_cell BK147.out 0).trans rfl; have hcz12_1 : w7.cell? ⟨gb147, 1, none⟩ = some (.bool false) := (blk_cell BK147.out 1).trans rfl; have hfz12_0 := blk_frozen BK147.out 0; have hfz12_1 := blk_frozen BK147.out 1))
    refine bodyPost_ret (results_cell_row rfl _ _ gb147 24 #[.slice A0_0 l0_0.length c0_0, .bool true] (0, 0) _ rfl (bS (blk_put (bS (blk_put (bS BK147.out) 0 _ rfl)) 1 _ rfl)) Try.underlying24 rfl (by kernel_rfl)) rfl ?_
    exact ⟨_, by first | rfl | (simp [errW_none, errW_some] <;> rfl) | (simp [*, errW_none, errW_some] <;> rfl), by (with_reducible repeat (first | apply Kd.V_alloc | apply Kd.V_drewN | apply Kd.V_drew)); exact Kd.V_mono (vF (b := gb147) (Kd.V_mono HO0_0.out (fun k_ hk => (⟨hk, hk.2⟩ : _ ∧ k_ ≠ gb147))) (fun _ hk => hk.2)) (fun _ hk => hk.1.1.1.1), by repeat (first | (with_reducible first | exact HB.out | apply below_alloc | apply pw_below_drewN | apply below_drew1 | refine below_set ?_ GE145.out | refine below_set ?_ GE146.out | refine below_set ?_ GE147.out) | exact HB.out)⟩
  · replace c4 := Bool.eq_false_iff.mpr c4
    subst c4
    have H1 : ((api_Change_string.f l0_0 a1_0).bind fun bt148 => (if bt148.2 = true then ((api_Change_39.f l0_0).bind fun t150 => (if 0 ≤ bt148.1 then (if bt148.1 < (t150.length : Int) then (some ((t150.set (bt148.1 : Int).toNat (⟨a1_0, a1_1, (⟨a1_2, a1_3, a1_4, a1_5⟩ : S31)⟩ : S33)), false)) else (none)) else (none))) else (if (l0_0.length : Int) < a2 then ((api_Change_40.f (([l0_0, (([(⟨a1_0, a1_1, (⟨a1_2, a1_3, a1_4, a1_5⟩ : S31)⟩ : S33)] : List (S33)))] : List (List (S33))))).bind fun t160 => (some (t160, false))) else (some (([] : List (S33)), true))))) = some (r1, r2) := by rw [if_neg (show ¬ (false = true) by decide)] at H; exact H
    clear H
    have H := H1
    clear H1
    replace H := Option.bind_eq_some_iff.mp H
    obtain ⟨⟨t148, t149⟩, A130, H⟩ := H
    replace H : (if t149 = true then ((api_Change_39.f l0_0).bind fun t150 => (if 0 ≤ t148 then (if t148 < (t150.length : Int) then (some ((t150.set (t148 : Int).toNat (⟨a1_0, a1_1, (⟨a1_2, a1_3, a1_4, a1_5⟩ : S31)⟩ : S33)), false)) else (none)) else (none))) else (if (l0_0.length : Int) < a2 then ((api_Change_40.f (([l0_0, (([(⟨a1_0, a1_1, (⟨a1_2, a1_3, a1_4, a1_5⟩ : S31)⟩ : S33)] : List (S33)))] : List (List (S33))))).bind fun t160 => (some (t160, false))) else (some (([] : List (S33)), true)))) = some (r1, r2) := H
    have A13 := Aside0.mk A130
    clear A130
    by_cases c14 : t149 = true
    · subst c14
      have H1 : ((api_Change_39.f l0_0).bind fun t150 => (if 0 ≤ t148 then (if t148 < (t150.length : Int) then (some ((t150.set (t148 : Int).toNat (⟨a1_0, a1_1, (⟨a1_2, a1_3, a1_4, a1_5⟩ : S31)⟩ : S33)), false)) else (none)) else (none))) = some (r1, r2) := by rw [if_pos rfl] at H; exact H
      clear H
      have H := H1
      clear H1
      replace H := Option.bind_eq_some_iff.mp H
      obtain ⟨t150, A150, H⟩ := H
      replace H : (if 0 ≤ t148 then (if t148 < (t150.length : Int) then (some ((t150.set (t148 : Int).toNat (⟨a1_0, a1_1, (⟨a1_2, a1_3, a1_4, a1_5⟩ : S31)⟩ : S33)), false)) else (none)) else (none)) = some (r1, r2) := H
      have A15 := Aside0.mk A150
      clear A150
      by_cases c16 : 0 ≤ t148
      · rw [if_pos c16] at H
        have c16b0 : decide (0 ≤ t148) = true := decide_eq_true c16
        clear c16
        by_cases c17 : t148 < (t150.length : Int)
        · rw [if_pos c17] at H
          have c17b0 : decide (t148 < (t150.length : Int)) = true := decide_eq_true c17
          clear c17
          obtain ⟨y153, hy153⟩ : ∃ y_ : List (S33), y_ = (t150.set (t148 : Int).toNat (⟨a1_0, a1_1, (⟨a1_2, a1_3, a1_4, a1_5⟩ : S31)⟩ : S33)) := ⟨_, rfl⟩
          replace H : (some (y153, false)) = some (r1, r2) := by first | (rw [hy153]; with_reducible exact H) | (have H2_ := (Option.bind_some _ _).symm.trans H; rw [hy153]; with_reducible exact H2_) | (have H2_ := (Option.bind_some _ _).symm.trans H; with_reducible exact H2_) | with_reducible exact H | (rw [hy153]; exact H) | exact H
          have Ny153 := Aside0.mk hy153
          clear hy153
          simp only [Option.some.injEq, Prod.mk.injEq] at H
          obtain ⟨rfl, rfl⟩ := H
          go_enter Try.func26, Try.ntmps26
          go_wp2_with (first | ((with_reducible refine gate_dst (N := 3) rfl ?_); refine box_event ?hg (N := 3) ?hd (cs := #[.slice A0_0 l0_0.length c0_0, .bool false]) (t := 24) ?hr ?_; (case hd => rfl); (case hg => rfl); (case hr => first | (go_simp; done) | (go_simp; rfl)); intro gb145 hg w19 hbox hb; replace HO0_0 := Aside0.mk (Kd.V_below (Kd.V_elderB (vS HO0_0.out) gb145 (Nat.le_of_eq hg.symm)) hb); have BK145 := Aside0.mk (hbox); have GW145 := Aside0.mk ((by rw [hg]; exact (below_size (hS HB.out)) : w.heap.size ≤ gb145)); have GE145 := Aside0.mk ((by rw [hg]; exact (below_size (hS HB.out)) : w.heap.size ≤ gb145)); replace HB := Aside0.mk (below_step (hS HB.out) hb); clear hb hbox hg) | ((with_reducible refine gate_dst (N := 4) rfl ?_); refine box_event ?hg (N := 4) ?hd (cs := #[.string a1_0, .bool a1_1, .int .i64 a1_2, .int .i64 a1_3, .int .i64 a1_4, .string a1_5]) (t := 33) ?hr ?_; (case hd => rfl); (case hg => rfl); (case hr => first | (go_simp; done) | (go_simp; rfl)); intro gb146 hg w20 hbox hb; replace HO0_0 := Aside0.mk (Kd.V_below (Kd.V_elderB (vS HO0_0.out) gb146 (Nat.le_of_eq hg.symm)) hb); have BK146 := Aside0.mk (hbox); have GW146 := Aside0.mk ((by rw [hg]; exact (below_size (hS HB.out)) : w.heap.size ≤ gb146)); have GE146 := Aside0.mk ((by rw [hg]; exact (below_size (hS HB.out)) : w.heap.size ≤ gb146)); replace HB := Aside0.mk (below_step (hS HB.out) hb); have NB145_146 := Aside0.mk ((by rw [hg]; exact Nat.ne_of_lt (blk_lt (bS BK145.out)) : gb145 ≠ gb146)); have NB146_145 := Aside0.mk ((by rw [hg]; exact Nat.ne_of_gt (blk_lt (bS BK145.out)) : gb146 ≠ gb145)); replace BK145 := Aside0.mk (blk_below (bS BK145.out) hb); clear hb hbox hg) | ((with_reducible refine gate_dst (N := 6) rfl ?_); refine box_event ?hg (N := 6) ?hd (cs := #[.slice none 0 0, .bool false]) (t := 24) ?hr ?_; (case hd => rfl); (case hg => rfl); (case hr => first | (go_simp; done) | (go_simp; rfl)); intro gb147 hg w21 hbox hb; replace HO0_0 := Aside0.mk (Kd.V_below (Kd.V_elderB (vS HO0_0.out) gb147 (Nat.le_of_eq hg.symm)) hb); have BK147 := Aside0.mk (hbox); have GW147 := Aside0.mk ((by rw [hg]; exact (below_size (hS HB.out)) : w.heap.size ≤ gb147)); have GE147 := Aside0.mk ((by rw [hg]; exact (below_size (hS HB.out)) : w.heap.size ≤ gb147)); replace HB := Aside0.mk (below_step (hS HB.out) hb); have NB145_147 := Aside0.mk ((by rw [hg]; exact Nat.ne_of_lt (blk_lt (bS BK145.out)) : gb145 ≠ gb147)); have NB147_145 := Aside0.mk ((by rw [hg]; exact Nat.ne_of_gt (blk_lt (bS BK145.out)) : gb147 ≠ gb145)); replace BK145 := Aside0.mk (blk_below (bS BK145.out) hb); have NB146_147 := Aside0.mk ((by rw [hg]; exact Nat.ne_of_lt (blk_lt (bS BK146.out)) : gb146 ≠ gb147)); have NB147_146 := Aside0.mk ((by rw [hg]; exact Nat.ne_of_gt (blk_lt (bS BK146.out)) : gb147 ≠ gb146)); replace BK146 := Aside0.mk (blk_below (bS BK146.out) hb); clear hb hbox hg; have hnb22 := NB145_146.out; have hnc22 := NB146_145.out; have hnb23 := NB145_147.out; have hnc23 := NB147_145.out; have hcz24_0 : w21.cell? ⟨gb145, 0, none⟩ = some (.slice A0_0 l0_0.length c0_0) := (blk_cell BK145.out 0).trans rfl; have hcz24_1 : w21.cell? ⟨gb145, 1, none⟩ = some (.bool false) := (blk_cell BK145.out 1).trans rfl; have hfz24_0 := blk_frozen BK145.out 0; have hfz24_1 := blk_frozen BK145.out 1; have hnb25 := NB146_147.out; have hnc25 := NB147_146.out; have hcz26_0 : w21.cell? ⟨gb146, 0, none⟩ = some (.string a1_0) := (blk_cell BK146.out 0).trans rfl; have hcz26_1 : w21.cell? ⟨gb146, 1, none⟩ = some (.bool a1_1) := (blk_cell BK146.out 1).trans rfl; have hcz26_2 : w21.cell? ⟨gb146, 2, none⟩ = some (.int .i64 a1_2) := (blk_cell BK146.out 2).trans rfl; have hcz26_3 : w21.cell? ⟨gb146, 3, none⟩ = some (.int .i64 a1_3) := (blk_cell BK146.out 3).trans rfl; have hcz26_4 : w21.cell? ⟨gb146, 4, none⟩ = some (.int .i64 a1_4) := (blk_cell BK146.out 4).trans rfl; have hcz26_5 : w21.cell? ⟨gb146, 5, none⟩ = some (.string a1_5) := (blk_cell BK146.out 5).trans rfl; have hfz26_0 := blk_frozen BK146.out 0; have hfz26_1 := blk_frozen BK146.out 1; have hfz26_2 := blk_frozen BK146.out 2; have hfz26_3 := blk_frozen BK146.out 3; have hfz26_4 := blk_frozen BK146.out 4; have hfz26_5 := blk_frozen BK146.out 5) | ((with_reducible refine gate_callee (f := 34) rfl ?_); refine goesL_ (some 17) rfl rfl Try.func34 (by kernel_rfl) rfl #[.slice A0_0 l0_0.length c0_0, .string a1_0, .func (.func 35) #[] #[]] rfl (by (try simp only [List.map_toArray, List.map_cons, List.map_nil]); first | done | rfl | (simp only [List.length_drop, List.length_take]; rfl)) ?_; (with_reducible refine (api_Change_string.calls _ _ l0_0 a1_0 t148 true _ ?side1 ?side2 A13.out).mono ?_); (case side1 => repeat (first | exact (Kd.V_reads' HO0_0.out).2.2 | (with_reducible refine Kd.C_alloc ?_ _) | (with_reducible refine Kd.C_drewN ?_ _) | (with_reducible refine Kd.C_drew ?_))); (case side2 => exact (Kd.V_reads' HO0_0.out).2.1); rintro e w27 ⟨rfl, hb⟩; refine ⟨_, rfl, ?_⟩; replace HO0_0 := Aside0.mk (Kd.V_below (vS HO0_0.out) hb); replace BK145 := Aside0.mk (blk_below (bS BK145.out) hb); replace BK146 := Aside0.mk (blk_below (bS BK146.out) hb); replace BK147 := Aside0.mk (blk_below (bS BK147.out) hb); replace HB := Aside0.mk (below_step (hS HB.out) hb); (try clear hb); (try clear hb2); (try clear hk); (try clear hi); have hcz28_0 : w27.cell? ⟨gb145, 0, none⟩ = some (.slice A0_0 l0_0.length c0_0) := (blk_cell BK145.out 0).trans rfl; have hcz28_1 : w27.cell? ⟨gb145, 1, none⟩ = some (.bool false) := (blk_cell BK145.out 1).trans rfl; have hfz28_0 := blk_frozen BK145.out 0; have hfz28_1 := blk_frozen BK145.out 1) | ((with_reducible refine gate_callee (f := 39) rfl ?_); refine goesL_ (some 25) rfl rfl Try.func39 (by kernel_rfl) rfl #[.slice A0_0 l0_0.length c0_0] rfl (by (try simp only [List.map_toArray, List.map_cons, List.map_nil]); first | done | rfl | (simp only [List.length_drop, List.length_take]; rfl)) ?_; (with_reducible refine (api_Change_39.calls _ _ l0_0 t150 _ ?side1 ?side2 A15.out).mono ?_); (case side1 => repeat (first | exact (Kd.V_reads' HO0_0.out).2.2 | (with_reducible refine Kd.C_alloc ?_ _) | (with_reducible refine Kd.C_drewN ?_ _) | (with_reducible refine Kd.C_drew ?_))); (case side2 => exact (Kd.V_reads' HO0_0.out).2.1); rintro e w29 ⟨v151, rfl, ho0, hb⟩; refine ⟨_, rfl, ?_⟩; replace HO0_0 := Aside0.mk (Kd.V_elder' (vS HO0_0.out) (Kd.R_base ho0) hb); have HO152 := Aside0.mk (Kd.R_lower (Kd.R_newB (Kd.R_newM (M := fun k_ => (w.heap.size ≤ k_)) ho0 (below_size (hS HB.out)) (fun k_ h_ => h_)) (bS BK146.out)) (below_size (hS HB.out))); replace BK145 := Aside0.mk (blk_below (bS BK145.out) hb); replace BK146 := Aside0.mk (blk_below (bS BK146.out) hb); replace BK147 := Aside0.mk (blk_below (bS BK147.out) hb); replace HB := Aside0.mk (below_step (hS HB.out) hb); (try clear hb); (try clear hb2); (try clear hk); (try clear hi); (try clear ho0); obtain ⟨Ao30, co30, eo30⟩ := Kd.R_slice HO152.out; subst eo30; have hcz31_0 : w29.cell? ⟨gb145, 0, none⟩ = some (.slice A0_0 l0_0.length c0_0) := (blk_cell BK145.out 0).trans rfl; have hcz31_1 : w29.cell? ⟨gb145, 1, none⟩ = some (.bool false) := (blk_cell BK145.out 1).trans rfl; have hfz31_0 := blk_frozen BK145.out 0; have hfz31_1 := blk_frozen BK145.out 1) | ((with_reducible refine gate_store (t := 22) (p := 26) rfl ?_); refine store_event (t := 22) (p := 26) (v := ?vo_w32) (w1 := (w29.setCell ⟨gb145, 0, none⟩ (.slice Ao30 t150.length co30))) ?hg ?ho ?hn ?hr ?_; (case ho => rfl); (case hg => rfl); (case hn => rfl); (case hr => first | (go_simp; done) | (go_simp; rfl)); intro w32 hw; replace HO0_0 : Aside0 (Kd.V k33 33 w32 w.heap.size (fun k_ => (P0_0_ k_ ∨ w.heap.size ≤ k_) ∧ some k_ ≠ (.slice Ao30 t150.length co30 : Value).ownBlock ∧ k_ ≠ gb145 ∧ k_ ≠ gb146 ∧ k_ ≠ gb147) (.slice A0_0 l0_0.length c0_0) l0_0) := ⟨(by rw [hw]; exact (by (with_reducible repeat (first | apply Kd.V_alloc | apply Kd.V_drewN | apply Kd.V_drew)); exact Kd.V_mono (vF (b := gb145) (Kd.V_mono HO0_0.out (fun k_ hk => (⟨hk, hk.1.1.1.2⟩ : _ ∧ k_ ≠ gb145))) (fun _ hk => hk.2)) (fun _ hk => ⟨hk.1.1.1.1.1, ⟨hk.1.2, ⟨hk.1.1.1.1.2, ⟨hk.1.1.1.2, hk.1.1.2⟩⟩⟩⟩)))⟩; replace HO152 : Aside0 (Kd.R k33 33 w32 w.heap.size (fun k_ => (w.heap.size ≤ k_) ∧ k_ ≠ gb146) (.slice Ao30 t150.length co30) t150) := ⟨(by rw [hw]; exact (by (with_reducible repeat (first | apply Kd.R_alloc | apply Kd.R_drewN | apply Kd.R_drew)); exact Kd.R_mono (Kd.R_far (p := ⟨gb145, 0, none⟩) (Kd.R_types HO152.out BK145.out (by decide)) (fun _ hk => hk.2) (.slice Ao30 t150.length co30)) (fun _ hk => ⟨hk.1.1.1, hk.1.2⟩)))⟩; replace BK145 : Aside0 (w32.heap[gb145]? = some (.cells #[.slice Ao30 t150.length co30, .bool false] 24 (0, 0))) := ⟨(by rw [hw]; exact (bS (blk_put (bS BK145.out) 0 _ rfl)))⟩; replace BK146 : Aside0 (w32.heap[gb146]? = some (.cells #[.string a1_0, .bool a1_1, .int .i64 a1_2, .int .i64 a1_3, .int .i64 a1_4, .string a1_5] 33 (0, 0))) := ⟨(by rw [hw]; exact (bF (BK146.out) NB146_145.out))⟩; replace BK147 : Aside0 (w32.heap[gb147]? = some (.cells #[.slice none 0 0, .bool false] 24 (0, 0))) := ⟨(by rw [hw]; exact (bF (BK147.out) NB147_145.out))⟩; replace HB : Aside0 (Below w.heap.size w w32) := ⟨(by rw [hw]; exact (hF HB.out GE145.out))⟩; clear hw; have hcz33_0 : w32.cell? ⟨gb145, 0, none⟩ = some (.slice Ao30 t150.length co30) := (blk_cell BK145.out 0).trans rfl; have hcz33_1 : w32.cell? ⟨gb145, 1, none⟩ = some (.bool false) := (blk_cell BK145.out 1).trans rfl; have hfz33_0 := blk_frozen BK145.out 0; have hfz33_1 := blk_frozen BK145.out 1; have hcz34_0 : w32.cell? ⟨gb146, 0, none⟩ = some (.string a1_0) := (blk_cell BK146.out 0).trans rfl; have hcz34_1 : w32.cell? ⟨gb146, 1, none⟩ = some (.bool a1_1) := (blk_cell BK146.out 1).trans rfl; have hcz34_2 : w32.cell? ⟨gb146, 2, none⟩ = some (.int .i64 a1_2) := (blk_cell BK146.out 2).trans rfl; have hcz34_3 : w32.cell? ⟨gb146, 3, none⟩ = some (.int .i64 a1_3) := (blk_cell BK146.out 3).trans rfl; have hcz34_4 : w32.cell? ⟨gb146, 4, none⟩ = some (.int .i64 a1_4) := (blk_cell BK146.out 4).trans rfl; have hcz34_5 : w32.cell? ⟨gb146, 5, none⟩ = some (.string a1_5) := (blk_cell BK146.out 5).trans rfl; have hfz34_0 := blk_frozen BK146.out 0; have hfz34_1 := blk_frozen BK146.out 1; have hfz34_2 := blk_frozen BK146.out 2; have hfz34_3 := blk_frozen BK146.out 3; have hfz34_4 := blk_frozen BK146.out 4; have hfz34_5 := blk_frozen BK146.out 5; have p18 : 0 ≤ (t148 : Int) := of_decide_eq_true (by first | (with_reducible assumption) | assumption); have q18 : (t148 : Int) < ((t150.length : Int) : Int) := of_decide_eq_true (by first | (with_reducible assumption) | assumption); obtain ⟨go18, co18, eo18, gb18, gl18, cl18, HG18⟩ := Kd.R_form HO152.out (by omega); (first | cases eo18 | (injection eo18 with ea_ en_ ec_; (first | subst ea_ | (injection ea_ with ea_; subst ea_)); subst ec_; clear en_)); have GB18 := Aside0.mk gb18; have GG18 := Aside0.mk HG18; clear gb18 gl18 HG18; obtain ⟨ce18, hcl18, hM18, hcc18, hfr18⟩ := Kd.R_elem HO152.out z33 (t148 : Int) p18 q18; obtain rfl := k33_openM hM18; have hx18_0 : w32.cell? ⟨go18, (t148 : Int).toNat * 6, none⟩ = some (.string ((rd_T33 t150 t148).f0)) := hcc18 0 _ rfl; have hx18_1 : w32.cell? ⟨go18, (t148 : Int).toNat * 6 + 1, none⟩ = some (.bool ((rd_T33 t150 t148).f1)) := hcc18 1 _ rfl; have hx18_2 : w32.cell? ⟨go18, (t148 : Int).toNat * 6 + 2, none⟩ = some (.int .i64 ((rd_T33 t150 t148).f2.f0)) := hcc18 2 _ rfl; have hx18_3 : w32.cell? ⟨go18, (t148 : Int).toNat * 6 + 3, none⟩ = some (.int .i64 ((rd_T33 t150 t148).f2.f1)) := hcc18 3 _ rfl; have hx18_4 : w32.cell? ⟨go18, (t148 : Int).toNat * 6 + 4, none⟩ = some (.int .i64 ((rd_T33 t150 t148).f2.f2)) := hcc18 4 _ rfl; have hx18_5 : w32.cell? ⟨go18, (t148 : Int).toNat * 6 + 5, none⟩ = some (.string ((rd_T33 t150 t148).f2.f3)) := hcc18 5 _ rfl; have hf18_0 : w32.frozen? ⟨go18, (t148 : Int).toNat * 6, none⟩ = false := hfr18 0; have hf18_1 : w32.frozen? ⟨go18, (t148 : Int).toNat * 6 + 1, none⟩ = false := hfr18 1; have hf18_2 : w32.frozen? ⟨go18, (t148 : Int).toNat * 6 + 2, none⟩ = false := hfr18 2; have hf18_3 : w32.frozen? ⟨go18, (t148 : Int).toNat * 6 + 3, none⟩ = false := hfr18 3; have hf18_4 : w32.frozen? ⟨go18, (t148 : Int).toNat * 6 + 4, none⟩ = false := hfr18 4; have hf18_5 : w32.frozen? ⟨go18, (t148 : Int).toNat * 6 + 5, none⟩ = false := hfr18 5; clear hcl18 hcc18 hfr18 hM18; replace p18 := eq_true p18; replace q18 := eq_true q18; have HX35 := Aside0.mk (show Kd.R k33 33 w32 w.heap.size (fun k_ => (w.heap.size ≤ k_) ∧ k_ ≠ gb146) (.slice (some ⟨go18, 0, none⟩) t150.length co30) t150 from (rS HO152.out)); obtain ⟨ce35, hcl35, hM35, hcc35, hfr35⟩ := Kd.R_elem HX35.out z33 (t148 : Int) (of_decide_eq_true (by first | (with_reducible assumption) | assumption)) (by have h_ : (t148 : Int) < ((t150.length : Int) : Int) := of_decide_eq_true (by first | (with_reducible assumption) | assumption); first | exact h_ | (have e_ := (Kd.R_reads' HO152.out).1; omega) | simpa using h_); obtain rfl := k33_openM hM35; have HP35 := Kd.R_seg HX35.out (t148 : Int) (of_decide_eq_true (by first | (with_reducible assumption) | assumption)) (by have h_ : (t148 : Int) < ((t150.length : Int) : Int) := of_decide_eq_true (by first | (with_reducible assumption) | assumption); first | exact h_ | (have e_ := (Kd.R_reads' HO152.out).1; omega) | simpa using h_) (seg := [.string a1_0, .bool a1_1, .int .i64 a1_2, .int .i64 a1_3, .int .i64 a1_4, .string a1_5]) (j := 0) hcl35 hcc35 (show 6 ≤ 6 from by decide) (x' := (⟨a1_0, a1_1, (⟨a1_2, a1_3, a1_4, a1_5⟩ : S31)⟩ : S33)) (k33_mkM _ _ _ (⟨a1_0, a1_1, (⟨a1_2, a1_3, a1_4, a1_5⟩ : S31)⟩ : S33) ) (fun _ hk => hk); have hx35_0 := hcc35 0 _ rfl; (try simp only [show (k33).sz = 6 from rfl, Nat.mul_one, Nat.add_zero] at hx35_0); have hf35_0 := hfr35 0; (try simp only [show (k33).sz = 6 from rfl, Nat.mul_one, Nat.add_zero] at hf35_0); have hx35_1 := hcc35 1 _ rfl; (try simp only [show (k33).sz = 6 from rfl, Nat.mul_one, Nat.add_zero] at hx35_1); have hf35_1 := hfr35 1; (try simp only [show (k33).sz = 6 from rfl, Nat.mul_one, Nat.add_zero] at hf35_1); have hx35_2 := hcc35 2 _ rfl; (try simp only [show (k33).sz = 6 from rfl, Nat.mul_one, Nat.add_zero] at hx35_2); have hf35_2 := hfr35 2; (try simp only [show (k33).sz = 6 from rfl, Nat.mul_one, Nat.add_zero] at hf35_2); have hx35_3 := hcc35 3 _ rfl; (try simp only [show (k33).sz = 6 from rfl, Nat.mul_one, Nat.add_zero] at hx35_3); have hf35_3 := hfr35 3; (try simp only [show (k33).sz = 6 from rfl, Nat.mul_one, Nat.add_zero] at hf35_3); have hx35_4 := hcc35 4 _ rfl; (try simp only [show (k33).sz = 6 from rfl, Nat.mul_one, Nat.add_zero] at hx35_4); have hf35_4 := hfr35 4; (try simp only [show (k33).sz = 6 from rfl, Nat.mul_one, Nat.add_zero] at hf35_4); have hx35_5 := hcc35 5 _ rfl; (try simp only [show (k33).sz = 6 from rfl, Nat.mul_one, Nat.add_zero] at hx35_5); have hf35_5 := hfr35 5; (try simp only [show (k33).sz = 6 from rfl, Nat.mul_one, Nat.add_zero] at hf35_5); clear hcl35 hcc35 hfr35 hM35) | ((with_reducible refine gate_store (t := 33) (p := 31) rfl ?_); refine store_event (t := 33) (p := 31) (v := ?vo_w36) (w1 := ((((((w32.setCell ⟨go18, (t148 : Int).toNat * 6, none⟩ (.string a1_0)).setCell ⟨go18, (t148 : Int).toNat * 6 + 1, none⟩ (.bool a1_1)).setCell ⟨go18, (t148 : Int).toNat * 6 + 2, none⟩ (.int .i64 a1_2)).setCell ⟨go18, (t148 : Int).toNat * 6 + 3, none⟩ (.int .i64 a1_3)).setCell ⟨go18, (t148 : Int).toNat * 6 + 4, none⟩ (.int .i64 a1_4)).setCell ⟨go18, (t148 : Int).toNat * 6 + 5, none⟩ (.string a1_5))) ?hg ?ho ?hn ?hr ?_; (case ho => rfl); (case hg => rfl); (case hn => rfl); (case hr => first | (go_simp; done) | (go_simp; rfl)); intro w36 hw; have hg : w32.grownBy w36 (some go18) := (by rw [hw]; exact HP35.2); have hp_ : Kd.R k33 33 w36 w.heap.size (fun k_ => (w.heap.size ≤ k_) ∧ k_ ≠ gb146) (.slice (some ⟨go18, 0, none⟩) t150.length co30) y153 := (by rw [hw, Ny153.out]; exact HP35.1); clear HP35; replace HO0_0 := Aside0.mk (Kd.V_afterv (v := (.slice (some ⟨go18, 0, none⟩) t150.length co30)) (v1 := (.slice (some ⟨go18, 0, none⟩) t150.length co30)) (ok := (fun k_ => (P0_0_ k_ ∨ w.heap.size ≤ k_) ∧ k_ ≠ gb145 ∧ k_ ≠ gb146 ∧ k_ ≠ gb147)) (by (with_reducible repeat (first | apply Kd.V_alloc | apply Kd.V_drewN | apply Kd.V_drew)); exact Kd.V_mono HO0_0.out (fun _ hk => ⟨⟨hk.1, ⟨hk.2.2.1, ⟨hk.2.2.2.1, hk.2.2.2.2⟩⟩⟩, hk.2.1⟩)) hg (.inl rfl)); replace BK145 := Aside0.mk (blk_grown (bS BK145.out) hg (Kd.R_ne HO152.out BK145.out (by decide))); replace BK146 := Aside0.mk (blk_grown (bS BK146.out) hg (Kd.R_away HO152.out (fun _ hk => hk.2))); replace BK147 := Aside0.mk (blk_grown (bS BK147.out) hg (Kd.R_ne HO152.out BK147.out (by decide))); replace HO152 := Aside0.mk (hp_); replace HB := Aside0.mk ((by rw [hw]; exact below_set (below_set (below_set (below_set (below_set (below_set (HB.out) GB18.out) GB18.out) GB18.out) GB18.out) GB18.out) GB18.out : Below w.heap.size w w36)); clear hg hw hp_; have hcz37_0 : w36.cell? ⟨gb145, 0, none⟩ = some (.slice (some ⟨go18, 0, none⟩) t150.length co30) := (blk_cell BK145.out 0).trans rfl; have hcz37_1 : w36.cell? ⟨gb145, 1, none⟩ = some (.bool false) := (blk_cell BK145.out 1).trans rfl; have hfz37_0 := blk_frozen BK145.out 0; have hfz37_1 := blk_frozen BK145.out 1; have hcz38_0 : w36.cell? ⟨gb147, 0, none⟩ = some (.slice none 0 0) := (blk_cell BK147.out 0).trans rfl; have hcz38_1 : w36.cell? ⟨gb147, 1, none⟩ = some (.bool false) := (blk_cell BK147.out 1).trans rfl; have hfz38_0 := blk_frozen BK147.out 0; have hfz38_1 := blk_frozen BK147.out 1))
          refine bodyPost_ret (results_cell_row rfl _ _ gb147 24 #[.slice (some ⟨go18, 0, none⟩) t150.length co30, .bool false] (0, 0) _ rfl (bS (blk_put (bS (blk_put (bS BK147.out) 0 _ rfl)) 1 _ rfl)) Try.underlying24 rfl (by kernel_rfl)) rfl ?_
          exact ⟨_, by first | rfl | (simp [errW_none, errW_some] <;> rfl) | (simp [*, errW_none, errW_some] <;> rfl), Kd.V_mono (Kd.R_V (by (with_reducible repeat (first | apply Kd.R_alloc | apply Kd.R_drewN | apply Kd.R_drew)); exact Kd.R_mono (Kd.R_far (p := ⟨gb147, 1, none⟩) (Kd.R_far (p := ⟨gb147, 0, none⟩) (Kd.R_types HO152.out BK147.out (by decide)) (fun _ hk => hk.2) (.slice (some ⟨go18, 0, none⟩) t150.length co30)) (fun _ hk => hk.2) (.bool false)) (fun _ hk => hk.1.1))) (fun k_ hk => by first | exact ⟨(.inr (hk.1)), hk.2⟩ | exact (.inr (hk))), by repeat (first | (with_reducible first | exact HB.out | apply below_alloc | apply pw_below_drewN | apply below_drew1 | refine below_set ?_ GE145.out | refine below_set ?_ GE146.out | refine below_set ?_ GE147.out) | exact HB.out)⟩
        · rw [if_neg c17] at H
          exact absurd H (by simp)
      · rw [if_neg c16] at H
        exact absurd H (by simp)
    · replace c14 := Bool.eq_false_iff.mpr c14
      subst c14
      have H1 : (if (l0_0.length : Int) < a2 then ((api_Change_40.f (([l0_0, (([(⟨a1_0, a1_1, (⟨a1_2, a1_3, a1_4, a1_5⟩ : S31)⟩ : S33)] : List (S33)))] : List (List (S33))))).bind fun t160 => (some (t160, false))) else (some (([] : List (S33)), true))) = some (r1, r2) := by rw [if_neg (show ¬ (false = true) by decide)] at H; exact H
      clear H
      have H := H1
      clear H1
      by_cases c39 : (l0_0.length : Int) < a2
      · rw [if_pos c39] at H
        have c39b0 : decide ((l0_0.length : Int) < a2) = true := decide_eq_true c39
        clear c39
        obtain ⟨y154, hy154⟩ : ∃ y_ : List (S33), y_ = (([(⟨a1_0, a1_1, (⟨a1_2, a1_3, a1_4, a1_5⟩ : S31)⟩ : S33)] : List (S33))) := ⟨_, rfl⟩
        replace H : ((api_Change_40.f (([l0_0, y154] : List (List (S33))))).bind fun t160 => (some (t160, false))) = some (r1, r2) := by first | (rw [hy154]; with_reducible exact H) | (have H2_ := (Option.bind_some _ _).symm.trans H; rw [hy154]; with_reducible exact H2_) | (have H2_ := (Option.bind_some _ _).symm.trans H; with_reducible exact H2_) | with_reducible exact H | (rw [hy154]; exact H) | exact H
        have Ny154 := Aside0.mk hy154
        clear hy154
        obtain ⟨y157, hy157⟩ : ∃ y_ : List (List (S33)), y_ = (([l0_0, y154] : List (List (S33)))) := ⟨_, rfl⟩
        replace H : ((api_Change_40.f y157).bind fun t160 => (some (t160, false))) = some (r1, r2) := by first | (rw [hy157]; with_reducible exact H) | (have H2_ := (Option.bind_some _ _).symm.trans H; rw [hy157]; with_reducible exact H2_) | (have H2_ := (Option.bind_some _ _).symm.trans H; with_reducible exact H2_) | with_reducible exact H | (rw [hy157]; exact H) | exact H
        have Ny157 := Aside0.mk hy157
        clear hy157
        replace H := Option.bind_eq_some_iff.mp H
        obtain ⟨t160, A400, H⟩ := H
        replace H : (some (t160, false)) = some (r1, r2) := H
        have A40 := Aside0.mk A400
        clear A400
        simp only [Option.some.injEq, Prod.mk.injEq] at H
        obtain ⟨rfl, rfl⟩ := H
        go_enter Try.func26, Try.ntmps26
        go_wp2_with (first | ((with_reducible refine gate_dst (N := 3) rfl ?_); refine box_event ?hg (N := 3) ?hd (cs := #[.slice A0_0 l0_0.length c0_0, .bool false]) (t := 24) ?hr ?_; (case hd => rfl); (case hg => rfl); (case hr => first | (go_simp; done) | (go_simp; rfl)); intro gb145 hg w41 hbox hb; replace HO0_0 := Aside0.mk (Kd.V_below (Kd.V_elderB (vS HO0_0.out) gb145 (Nat.le_of_eq hg.symm)) hb); have BK145 := Aside0.mk (hbox); have GW145 := Aside0.mk ((by rw [hg]; exact (below_size (hS HB.out)) : w.heap.size ≤ gb145)); have GE145 := Aside0.mk ((by rw [hg]; exact (below_size (hS HB.out)) : w.heap.size ≤ gb145)); replace HB := Aside0.mk (below_step (hS HB.out) hb); clear hb hbox hg) | ((with_reducible refine gate_dst (N := 4) rfl ?_); refine box_event ?hg (N := 4) ?hd (cs := #[.string a1_0, .bool a1_1, .int .i64 a1_2, .int .i64 a1_3, .int .i64 a1_4, .string a1_5]) (t := 33) ?hr ?_; (case hd => rfl); (case hg => rfl); (case hr => first | (go_simp; done) | (go_simp; rfl)); intro gb146 hg w42 hbox hb; replace HO0_0 := Aside0.mk (Kd.V_below (Kd.V_elderB (vS HO0_0.out) gb146 (Nat.le_of_eq hg.symm)) hb); have BK146 := Aside0.mk (hbox); have GW146 := Aside0.mk ((by rw [hg]; exact (below_size (hS HB.out)) : w.heap.size ≤ gb146)); have GE146 := Aside0.mk ((by rw [hg]; exact (below_size (hS HB.out)) : w.heap.size ≤ gb146)); replace HB := Aside0.mk (below_step (hS HB.out) hb); have NB145_146 := Aside0.mk ((by rw [hg]; exact Nat.ne_of_lt (blk_lt (bS BK145.out)) : gb145 ≠ gb146)); have NB146_145 := Aside0.mk ((by rw [hg]; exact Nat.ne_of_gt (blk_lt (bS BK145.out)) : gb146 ≠ gb145)); replace BK145 := Aside0.mk (blk_below (bS BK145.out) hb); clear hb hbox hg) | ((with_reducible refine gate_dst (N := 6) rfl ?_); refine box_event ?hg (N := 6) ?hd (cs := #[.slice none 0 0, .bool false]) (t := 24) ?hr ?_; (case hd => rfl); (case hg => rfl); (case hr => first | (go_simp; done) | (go_simp; rfl)); intro gb147 hg w43 hbox hb; replace HO0_0 := Aside0.mk (Kd.V_below (Kd.V_elderB (vS HO0_0.out) gb147 (Nat.le_of_eq hg.symm)) hb); have BK147 := Aside0.mk (hbox); have GW147 := Aside0.mk ((by rw [hg]; exact (below_size (hS HB.out)) : w.heap.size ≤ gb147)); have GE147 := Aside0.mk ((by rw [hg]; exact (below_size (hS HB.out)) : w.heap.size ≤ gb147)); replace HB := Aside0.mk (below_step (hS HB.out) hb); have NB145_147 := Aside0.mk ((by rw [hg]; exact Nat.ne_of_lt (blk_lt (bS BK145.out)) : gb145 ≠ gb147)); have NB147_145 := Aside0.mk ((by rw [hg]; exact Nat.ne_of_gt (blk_lt (bS BK145.out)) : gb147 ≠ gb145)); replace BK145 := Aside0.mk (blk_below (bS BK145.out) hb); have NB146_147 := Aside0.mk ((by rw [hg]; exact Nat.ne_of_lt (blk_lt (bS BK146.out)) : gb146 ≠ gb147)); have NB147_146 := Aside0.mk ((by rw [hg]; exact Nat.ne_of_gt (blk_lt (bS BK146.out)) : gb147 ≠ gb146)); replace BK146 := Aside0.mk (blk_below (bS BK146.out) hb); clear hb hbox hg; have hnb44 := NB145_146.out; have hnc44 := NB146_145.out; have hnb45 := NB145_147.out; have hnc45 := NB147_145.out; have hcz46_0 : w43.cell? ⟨gb145, 0, none⟩ = some (.slice A0_0 l0_0.length c0_0) := (blk_cell BK145.out 0).trans rfl; have hcz46_1 : w43.cell? ⟨gb145, 1, none⟩ = some (.bool false) := (blk_cell BK145.out 1).trans rfl; have hfz46_0 := blk_frozen BK145.out 0; have hfz46_1 := blk_frozen BK145.out 1; have hnb47 := NB146_147.out; have hnc47 := NB147_146.out; have hcz48_0 : w43.cell? ⟨gb146, 0, none⟩ = some (.string a1_0) := (blk_cell BK146.out 0).trans rfl; have hcz48_1 : w43.cell? ⟨gb146, 1, none⟩ = some (.bool a1_1) := (blk_cell BK146.out 1).trans rfl; have hcz48_2 : w43.cell? ⟨gb146, 2, none⟩ = some (.int .i64 a1_2) := (blk_cell BK146.out 2).trans rfl; have hcz48_3 : w43.cell? ⟨gb146, 3, none⟩ = some (.int .i64 a1_3) := (blk_cell BK146.out 3).trans rfl; have hcz48_4 : w43.cell? ⟨gb146, 4, none⟩ = some (.int .i64 a1_4) := (blk_cell BK146.out 4).trans rfl; have hcz48_5 : w43.cell? ⟨gb146, 5, none⟩ = some (.string a1_5) := (blk_cell BK146.out 5).trans rfl; have hfz48_0 := blk_frozen BK146.out 0; have hfz48_1 := blk_frozen BK146.out 1; have hfz48_2 := blk_frozen BK146.out 2; have hfz48_3 := blk_frozen BK146.out 3; have hfz48_4 := blk_frozen BK146.out 4; have hfz48_5 := blk_frozen BK146.out 5) | ((with_reducible refine gate_callee (f := 34) rfl ?_); refine goesL_ (some 17) rfl rfl Try.func34 (by kernel_rfl) rfl #[.slice A0_0 l0_0.length c0_0, .string a1_0, .func (.func 35) #[] #[]] rfl (by (try simp only [List.map_toArray, List.map_cons, List.map_nil]); first | done | rfl | (simp only [List.length_drop, List.length_take]; rfl)) ?_; (with_reducible refine (api_Change_string.calls _ _ l0_0 a1_0 t148 false _ ?side1 ?side2 A13.out).mono ?_); (case side1 => repeat (first | exact (Kd.V_reads' HO0_0.out).2.2 | (with_reducible refine Kd.C_alloc ?_ _) | (with_reducible refine Kd.C_drewN ?_ _) | (with_reducible refine Kd.C_drew ?_))); (case side2 => exact (Kd.V_reads' HO0_0.out).2.1); rintro e w49 ⟨rfl, hb⟩; refine ⟨_, rfl, ?_⟩; replace HO0_0 := Aside0.mk (Kd.V_below (vS HO0_0.out) hb); replace BK145 := Aside0.mk (blk_below (bS BK145.out) hb); replace BK146 := Aside0.mk (blk_below (bS BK146.out) hb); replace BK147 := Aside0.mk (blk_below (bS BK147.out) hb); replace HB := Aside0.mk (below_step (hS HB.out) hb); (try clear hb); (try clear hb2); (try clear hk); (try clear hi); have hcz50_0 : w49.cell? ⟨gb145, 0, none⟩ = some (.slice A0_0 l0_0.length c0_0) := (blk_cell BK145.out 0).trans rfl; have hcz50_1 : w49.cell? ⟨gb145, 1, none⟩ = some (.bool false) := (blk_cell BK145.out 1).trans rfl; have hfz50_0 := blk_frozen BK145.out 0; have hfz50_1 := blk_frozen BK145.out 1; have hcz51_0 : w49.cell? ⟨gb146, 0, none⟩ = some (.string a1_0) := (blk_cell BK146.out 0).trans rfl; have hcz51_1 : w49.cell? ⟨gb146, 1, none⟩ = some (.bool a1_1) := (blk_cell BK146.out 1).trans rfl; have hcz51_2 : w49.cell? ⟨gb146, 2, none⟩ = some (.int .i64 a1_2) := (blk_cell BK146.out 2).trans rfl; have hcz51_3 : w49.cell? ⟨gb146, 3, none⟩ = some (.int .i64 a1_3) := (blk_cell BK146.out 3).trans rfl; have hcz51_4 : w49.cell? ⟨gb146, 4, none⟩ = some (.int .i64 a1_4) := (blk_cell BK146.out 4).trans rfl; have hcz51_5 : w49.cell? ⟨gb146, 5, none⟩ = some (.string a1_5) := (blk_cell BK146.out 5).trans rfl; have hfz51_0 := blk_frozen BK146.out 0; have hfz51_1 := blk_frozen BK146.out 1; have hfz51_2 := blk_frozen BK146.out 2; have hfz51_3 := blk_frozen BK146.out 3; have hfz51_4 := blk_frozen BK146.out 4; have hfz51_5 := blk_frozen BK146.out 5) | ((with_reducible refine gate_dst (N := 41) rfl ?_); refine Kd.R_lit k33 _ 33 ?hg (N := 41) ?hd (xs := ([(⟨a1_0, a1_1, (⟨a1_2, a1_3, a1_4, a1_5⟩ : S31)⟩ : S33)] : List (S33))) (inner := [.string a1_0, .bool a1_1, .int .i64 a1_2, .int .i64 a1_3, .int .i64 a1_4, .string a1_5]) (ok := fun _ => True) (okp := fun _ => True) ?hr ?hp (fun _ hk => hk) trivial (Below.refl _ _) (Nat.le_refl _) (by simp) ?_; (case hd => rfl); (case hg => rfl); (case hr => first | (go_simp; done) | (go_simp; rfl)); (case hp => exact (Reps.c6 (show Kd.M k33 _ _ _ (⟨a1_0, a1_1, (⟨a1_2, a1_3, a1_4, a1_5⟩ : S31)⟩ : S33) [.string a1_0, .bool a1_1, .int .i64 a1_2, .int .i64 a1_3, .int .i64 a1_4, .string a1_5] from (k33_mkM _ _ _ (⟨a1_0, a1_1, (⟨a1_2, a1_3, a1_4, a1_5⟩ : S31)⟩ : S33) )) (Reps.none _ _))); intro v155 w52 ho53 hb hg_ hnew_; clear hg_ hnew_; (first | rw [← Ny154.out] at ho53 | (simp only [Int.reduceToNat] at ho53; rw [← Ny154.out] at ho53)); replace HO0_0 := Aside0.mk (Kd.V_elder' (vS HO0_0.out) (Kd.R_base ho53) hb); have HO156 := Aside0.mk (Kd.R_lower (Kd.R_newB (Kd.R_newM (M := fun k_ => (w.heap.size ≤ k_)) ho53 (below_size (hS HB.out)) (fun k_ h_ => h_)) (bS BK146.out)) (below_size (hS HB.out))); replace BK145 := Aside0.mk (blk_below (bS BK145.out) hb); replace BK146 := Aside0.mk (blk_below (bS BK146.out) hb); replace BK147 := Aside0.mk (blk_below (bS BK147.out) hb); replace HB := Aside0.mk (below_step (hS HB.out) hb); clear hb ho53; obtain ⟨Ao54, co54, eo54⟩ := Kd.R_slice HO156.out; subst eo54) | ((with_reducible refine gate_dst (N := 42) rfl ?_); refine Kd.N_lit (Kd.slice 33 k33) _ 22 ?hg (N' := 42) ?hd (xs := ([l0_0, y154] : List (List (S33)))) (inner := [.slice A0_0 l0_0.length c0_0, .slice Ao54 y154.length co54]) (ok := (fun k_ => (P0_0_ k_ ∨ w.heap.size ≤ k_) ∧ k_ ≠ gb145 ∧ k_ ≠ gb146 ∧ k_ ≠ gb147)) (okp := (fun k_ => (P0_0_ k_ ∨ w.heap.size ≤ k_) ∧ k_ ≠ gb145 ∧ k_ ≠ gb146 ∧ k_ ≠ gb147)) ?hr ?hp (fun _ hk => hk) ((show ∀ k_, w52.heap.size ≤ k_ → (fun k_ => (P0_0_ k_ ∨ w.heap.size ≤ k_) ∧ k_ ≠ gb145 ∧ k_ ≠ gb146 ∧ k_ ≠ gb147) k_ from fun k_ hk => ⟨(.inr (Nat.le_trans (below_size (hS HB.out)) hk)), Kd.freshB (bS BK145.out) k_ hk, Kd.freshB (bS BK146.out) k_ hk, Kd.freshB (bS BK147.out) k_ hk⟩) _ (Nat.le_refl _)) (Below.refl _ _) (Nat.le_refl _) (by simp) ?_; (case hd => rfl); (case hg => rfl); (case hr => first | (go_simp; done) | (go_simp; rfl)); (case hp => exact (Reps.one (show Kd.FK (Kd.slice 33 k33) _ _ l0_0 [.slice A0_0 l0_0.length c0_0] from (Kd.FK_slice_mk (Kd.V_reads' (Kd.V_mono (ok' := (fun k_ => (P0_0_ k_ ∨ w.heap.size ≤ k_) ∧ k_ ≠ gb145 ∧ k_ ≠ gb146 ∧ k_ ≠ gb147)) (HO0_0.out) (fun k_ hk => ⟨hk.1.1.1.1, ⟨hk.1.1.1.2, ⟨hk.1.1.2, hk.1.2⟩⟩⟩))).2.1 (Kd.V_F (Kd.V_mono (ok' := (fun k_ => (P0_0_ k_ ∨ w.heap.size ≤ k_) ∧ k_ ≠ gb145 ∧ k_ ≠ gb146 ∧ k_ ≠ gb147)) (HO0_0.out) (fun k_ hk => ⟨hk.1.1.1.1, ⟨hk.1.1.1.2, ⟨hk.1.1.2, hk.1.2⟩⟩⟩))))) (Reps.one (show Kd.FK (Kd.slice 33 k33) _ _ y154 [.slice Ao54 y154.length co54] from (Kd.FK_slice_mk (Kd.R_reads' (Kd.R_mono (ok' := (fun k_ => (P0_0_ k_ ∨ w.heap.size ≤ k_) ∧ k_ ≠ gb145 ∧ k_ ≠ gb146 ∧ k_ ≠ gb147)) (Kd.R_types (Kd.R_types (HO156.out) BK145.out (by decide)) BK147.out (by decide)) (fun k_ hk => ⟨(.inr (hk.1.1.1.1)), ⟨hk.1.2, ⟨hk.1.1.2, hk.2⟩⟩⟩))).2.1 (Kd.R_F (Kd.R_mono (ok' := (fun k_ => (P0_0_ k_ ∨ w.heap.size ≤ k_) ∧ k_ ≠ gb145 ∧ k_ ≠ gb146 ∧ k_ ≠ gb147)) (Kd.R_types (Kd.R_types (HO156.out) BK145.out (by decide)) BK147.out (by decide)) (fun k_ hk => ⟨(.inr (hk.1.1.1.1)), ⟨hk.1.2, ⟨hk.1.1.2, hk.2⟩⟩⟩))))) (Reps.none _ _)))); intro v158 w55 ho56 hb hg_ hnew_; clear hg_ hnew_; (first | rw [← Ny157.out] at ho56 | (simp only [Int.reduceToNat] at ho56; rw [← Ny157.out] at ho56)); replace HO0_0 := Aside0.mk (Kd.V_elder' (vS HO0_0.out) (Kd.N_base ho56) hb); have HO159 := Aside0.mk (Kd.N_lower ho56 (below_size (hS HB.out))); replace BK145 := Aside0.mk (blk_below (bS BK145.out) hb); replace BK146 := Aside0.mk (blk_below (bS BK146.out) hb); replace BK147 := Aside0.mk (blk_below (bS BK147.out) hb); replace HB := Aside0.mk (below_step (hS HB.out) hb); clear HO156; clear hb ho56; obtain ⟨Ao57, co57, eo57⟩ := Kd.N_slice HO159.out; subst eo57) | ((with_reducible refine gate_callee (f := 40) rfl ?_); refine goesL_ (some 43) rfl rfl Try.func40 (by kernel_rfl) rfl #[.slice Ao57 y157.length co57] rfl (by (try simp only [List.map_toArray, List.map_cons, List.map_nil]); first | done | rfl | (simp only [List.length_drop, List.length_take]; rfl)) ?_; (with_reducible refine (api_Change_40.calls _ _ y157 t160 _ ?side1 ?side2 A40.out).mono ?_); (case side1 => repeat (first | exact (Kd.N_reads' HO159.out).2.2 | (with_reducible refine Kd.C_alloc ?_ _) | (with_reducible refine Kd.C_drewN ?_ _) | (with_reducible refine Kd.C_drew ?_))); (case side2 => exact (Kd.N_reads' HO159.out).2.1); rintro e w58 ⟨v161, rfl, ho0, hb⟩; refine ⟨_, rfl, ?_⟩; replace HO0_0 := Aside0.mk (Kd.V_elder' (vS HO0_0.out) (Kd.R_base ho0) hb); replace HO159 := Aside0.mk (Kd.N_elder' (by (with_reducible repeat (first | apply Kd.N_alloc | apply Kd.N_drewN | apply Kd.N_drew)); exact HO159.out) (Kd.R_base ho0) hb); have HO162 := Aside0.mk (Kd.R_lower (Kd.R_newB (Kd.R_newM (M := fun k_ => (w.heap.size ≤ k_)) ho0 (below_size (hS HB.out)) (fun k_ h_ => h_)) (bS BK146.out)) (below_size (hS HB.out))); replace BK145 := Aside0.mk (blk_below (bS BK145.out) hb); replace BK146 := Aside0.mk (blk_below (bS BK146.out) hb); replace BK147 := Aside0.mk (blk_below (bS BK147.out) hb); replace HB := Aside0.mk (below_step (hS HB.out) hb); (try clear hb); (try clear hb2); (try clear hk); (try clear hi); (try clear ho0); obtain ⟨Ao59, co59, eo59⟩ := Kd.R_slice HO162.out; subst eo59; have hcz60_0 : w58.cell? ⟨gb145, 0, none⟩ = some (.slice A0_0 l0_0.length c0_0) := (blk_cell BK145.out 0).trans rfl; have hcz60_1 : w58.cell? ⟨gb145, 1, none⟩ = some (.bool false) := (blk_cell BK145.out 1).trans rfl; have hfz60_0 := blk_frozen BK145.out 0; have hfz60_1 := blk_frozen BK145.out 1; have hcz61_0 : w58.cell? ⟨gb147, 0, none⟩ = some (.slice none 0 0) := (blk_cell BK147.out 0).trans rfl; have hcz61_1 : w58.cell? ⟨gb147, 1, none⟩ = some (.bool false) := (blk_cell BK147.out 1).trans rfl; have hfz61_0 := blk_frozen BK147.out 0; have hfz61_1 := blk_frozen BK147.out 1))
        refine bodyPost_ret (results_cell_row rfl _ _ gb147 24 #[.slice Ao59 t160.length co59, .bool false] (0, 0) _ rfl (bS (blk_put (bS (blk_put (bF (BK147.out) NB147_145.out) 0 _ rfl)) 1 _ rfl)) Try.underlying24 rfl (by kernel_rfl)) rfl ?_
        exact ⟨_, by first | rfl | (simp [errW_none, errW_some] <;> rfl) | (simp [*, errW_none, errW_some] <;> rfl), Kd.V_mono (Kd.R_V (by (with_reducible repeat (first | apply Kd.R_alloc | apply Kd.R_drewN | apply Kd.R_drew)); exact Kd.R_mono (Kd.R_far (p := ⟨gb147, 1, none⟩) (Kd.R_far (p := ⟨gb147, 0, none⟩) (Kd.R_far (p := ⟨gb145, 0, none⟩) (Kd.R_types (Kd.R_types HO162.out BK145.out (by decide)) BK147.out (by decide)) (fun _ hk => hk.1.2) (.slice Ao59 t160.length co59)) (fun _ hk => hk.2) (.slice Ao59 t160.length co59)) (fun _ hk => hk.2) (.bool false)) (fun _ hk => hk.1.1.1.1))) (fun k_ hk => by first | exact ⟨(.inr (hk.1)), hk.2⟩ | exact (.inr (hk))), by repeat (first | (with_reducible first | exact HB.out | apply below_alloc | apply pw_below_drewN | apply below_drew1 | refine below_set ?_ GE145.out | refine below_set ?_ GE146.out | refine below_set ?_ GE147.out) | exact HB.out)⟩
      · rw [if_neg c39] at H
        have c39b0 : decide ((l0_0.length : Int) < a2) = false := decide_eq_false c39
        clear c39
        simp only [Option.some.injEq, Prod.mk.injEq] at H
        obtain ⟨rfl, rfl⟩ := H
        go_enter Try.func26, Try.ntmps26
        go_wp2_with (first | ((with_reducible refine gate_dst (N := 3) rfl ?_); refine box_event ?hg (N := 3) ?hd (cs := #[.slice A0_0 l0_0.length c0_0, .bool false]) (t := 24) ?hr ?_; (case hd => rfl); (case hg => rfl); (case hr => first | (go_simp; done) | (go_simp; rfl)); intro gb145 hg w62 hbox hb; replace HO0_0 := Aside0.mk (Kd.V_below (Kd.V_elderB (vS HO0_0.out) gb145 (Nat.le_of_eq hg.symm)) hb); have BK145 := Aside0.mk (hbox); have GW145 := Aside0.mk ((by rw [hg]; exact (below_size (hS HB.out)) : w.heap.size ≤ gb145)); have GE145 := Aside0.mk ((by rw [hg]; exact (below_size (hS HB.out)) : w.heap.size ≤ gb145)); replace HB := Aside0.mk (below_step (hS HB.out) hb); clear hb hbox hg) | ((with_reducible refine gate_dst (N := 4) rfl ?_); refine box_event ?hg (N := 4) ?hd (cs := #[.string a1_0, .bool a1_1, .int .i64 a1_2, .int .i64 a1_3, .int .i64 a1_4, .string a1_5]) (t := 33) ?hr ?_; (case hd => rfl); (case hg => rfl); (case hr => first | (go_simp; done) | (go_simp; rfl)); intro gb146 hg w63 hbox hb; replace HO0_0 := Aside0.mk (Kd.V_below (Kd.V_elderB (vS HO0_0.out) gb146 (Nat.le_of_eq hg.symm)) hb); have BK146 := Aside0.mk (hbox); have GW146 := Aside0.mk ((by rw [hg]; exact (below_size (hS HB.out)) : w.heap.size ≤ gb146)); have GE146 := Aside0.mk ((by rw [hg]; exact (below_size (hS HB.out)) : w.heap.size ≤ gb146)); replace HB := Aside0.mk (below_step (hS HB.out) hb); have NB145_146 := Aside0.mk ((by rw [hg]; exact Nat.ne_of_lt (blk_lt (bS BK145.out)) : gb145 ≠ gb146)); have NB146_145 := Aside0.mk ((by rw [hg]; exact Nat.ne_of_gt (blk_lt (bS BK145.out)) : gb146 ≠ gb145)); replace BK145 := Aside0.mk (blk_below (bS BK145.out) hb); clear hb hbox hg) | ((with_reducible refine gate_dst (N := 6) rfl ?_); refine box_event ?hg (N := 6) ?hd (cs := #[.slice none 0 0, .bool false]) (t := 24) ?hr ?_; (case hd => rfl); (case hg => rfl); (case hr => first | (go_simp; done) | (go_simp; rfl)); intro gb147 hg w64 hbox hb; replace HO0_0 := Aside0.mk (Kd.V_below (Kd.V_elderB (vS HO0_0.out) gb147 (Nat.le_of_eq hg.symm)) hb); have BK147 := Aside0.mk (hbox); have GW147 := Aside0.mk ((by rw [hg]; exact (below_size (hS HB.out)) : w.heap.size ≤ gb147)); have GE147 := Aside0.mk ((by rw [hg]; exact (below_size (hS HB.out)) : w.heap.size ≤ gb147)); replace HB := Aside0.mk (below_step (hS HB.out) hb); have NB145_147 := Aside0.mk ((by rw [hg]; exact Nat.ne_of_lt (blk_lt (bS BK145.out)) : gb145 ≠ gb147)); have NB147_145 := Aside0.mk ((by rw [hg]; exact Nat.ne_of_gt (blk_lt (bS BK145.out)) : gb147 ≠ gb145)); replace BK145 := Aside0.mk (blk_below (bS BK145.out) hb); have NB146_147 := Aside0.mk ((by rw [hg]; exact Nat.ne_of_lt (blk_lt (bS BK146.out)) : gb146 ≠ gb147)); have NB147_146 := Aside0.mk ((by rw [hg]; exact Nat.ne_of_gt (blk_lt (bS BK146.out)) : gb147 ≠ gb146)); replace BK146 := Aside0.mk (blk_below (bS BK146.out) hb); clear hb hbox hg; have hnb65 := NB145_146.out; have hnc65 := NB146_145.out; have hnb66 := NB145_147.out; have hnc66 := NB147_145.out; have hcz67_0 : w64.cell? ⟨gb145, 0, none⟩ = some (.slice A0_0 l0_0.length c0_0) := (blk_cell BK145.out 0).trans rfl; have hcz67_1 : w64.cell? ⟨gb145, 1, none⟩ = some (.bool false) := (blk_cell BK145.out 1).trans rfl; have hfz67_0 := blk_frozen BK145.out 0; have hfz67_1 := blk_frozen BK145.out 1; have hnb68 := NB146_147.out; have hnc68 := NB147_146.out; have hcz69_0 : w64.cell? ⟨gb146, 0, none⟩ = some (.string a1_0) := (blk_cell BK146.out 0).trans rfl; have hcz69_1 : w64.cell? ⟨gb146, 1, none⟩ = some (.bool a1_1) := (blk_cell BK146.out 1).trans rfl; have hcz69_2 : w64.cell? ⟨gb146, 2, none⟩ = some (.int .i64 a1_2) := (blk_cell BK146.out 2).trans rfl; have hcz69_3 : w64.cell? ⟨gb146, 3, none⟩ = some (.int .i64 a1_3) := (blk_cell BK146.out 3).trans rfl; have hcz69_4 : w64.cell? ⟨gb146, 4, none⟩ = some (.int .i64 a1_4) := (blk_cell BK146.out 4).trans rfl; have hcz69_5 : w64.cell? ⟨gb146, 5, none⟩ = some (.string a1_5) := (blk_cell BK146.out 5).trans rfl; have hfz69_0 := blk_frozen BK146.out 0; have hfz69_1 := blk_frozen BK146.out 1; have hfz69_2 := blk_frozen BK146.out 2; have hfz69_3 := blk_frozen BK146.out 3; have hfz69_4 := blk_frozen BK146.out 4; have hfz69_5 := blk_frozen BK146.out 5) | ((with_reducible refine gate_callee (f := 34) rfl ?_); refine goesL_ (some 17) rfl rfl Try.func34 (by kernel_rfl) rfl #[.slice A0_0 l0_0.length c0_0, .string a1_0, .func (.func 35) #[] #[]] rfl (by (try simp only [List.map_toArray, List.map_cons, List.map_nil]); first | done | rfl | (simp only [List.length_drop, List.length_take]; rfl)) ?_; (with_reducible refine (api_Change_string.calls _ _ l0_0 a1_0 t148 false _ ?side1 ?side2 A13.out).mono ?_); (case side1 => repeat (first | exact (Kd.V_reads' HO0_0.out).2.2 | (with_reducible refine Kd.C_alloc ?_ _) | (with_reducible refine Kd.C_drewN ?_ _) | (with_reducible refine Kd.C_drew ?_))); (case side2 => exact (Kd.V_reads' HO0_0.out).2.1); rintro e w70 ⟨rfl, hb⟩; refine ⟨_, rfl, ?_⟩; replace HO0_0 := Aside0.mk (Kd.V_below (vS HO0_0.out) hb); replace BK145 := Aside0.mk (blk_below (bS BK145.out) hb); replace BK146 := Aside0.mk (blk_below (bS BK146.out) hb); replace BK147 := Aside0.mk (blk_below (bS BK147.out) hb); replace HB := Aside0.mk (below_step (hS HB.out) hb); (try clear hb); (try clear hb2); (try clear hk); (try clear hi); have hcz71_0 : w70.cell? ⟨gb145, 0, none⟩ = some (.slice A0_0 l0_0.length c0_0) := (blk_cell BK145.out 0).trans rfl; have hcz71_1 : w70.cell? ⟨gb145, 1, none⟩ = some (.bool false) := (blk_cell BK145.out 1).trans rfl; have hfz71_0 := blk_frozen BK145.out 0; have hfz71_1 := blk_frozen BK145.out 1; have hcz72_0 : w70.cell? ⟨gb147, 0, none⟩ = some (.slice none 0 0) := (blk_cell BK147.out 0).trans rfl; have hcz72_1 : w70.cell? ⟨gb147, 1, none⟩ = some (.bool false) := (blk_cell BK147.out 1).trans rfl; have hfz72_0 := blk_frozen BK147.out 0; have hfz72_1 := blk_frozen BK147.out 1))
        refine bodyPost_ret (results_cell_row rfl _ _ gb147 24 #[.slice none 0 0, .bool true] (0, 0) _ rfl (bS (blk_put (bS (blk_put (bS BK147.out) 0 _ rfl)) 1 _ rfl)) Try.underlying24 rfl (by kernel_rfl)) rfl ?_
        exact ⟨_, by first | rfl | (simp [errW_none, errW_some] <;> rfl) | (simp [*, errW_none, errW_some] <;> rfl), Kd.V_nil _ _ _ _ _, by repeat (first | (with_reducible first | exact HB.out | apply below_alloc | apply pw_below_drewN | apply below_drew1 | refine below_set ?_ GE145.out | refine below_set ?_ GE146.out | refine below_set ?_ GE147.out) | exact HB.out)⟩

end Go.Proofs.Ythcmelchgnekpaa.PA
