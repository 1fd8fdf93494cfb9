-- Written by a program of this session (wip/tools/xprint.py), which drives the kit's print.
import Derived.Test.YthcmelchgnekpaaPAx0
import Derived.Test.YthcmelchgnekpaaPAx3
import Derived.Test.YthcmelchgnekpaaPAx8
namespace Go.Proofs.Ythcmelchgnekpaa.PA
open Go.RowKit Go.Proofs.YthcmelchgnekpaaW.PrintWords Go.Proofs.YthcmelchgnekpaaW.PrintLast Go.Proofs.YthcmelchgnekpaaW.PrintMore
attribute [local go_sem] max2_int min2_int max_two min_two max_three min_three max_four min_four   -- for this text's walks alone
set_option linter.unusedVariables false
set_option linter.unusedSimpArgs false

attribute [local go_sem high] eqA52
/-- A shared row that holds an element lies in a block of which its own account speaks. -/
theorem Kd.V_apart {α : Type} {d : Kd α} {e : Nat} {W : World} {base : Nat} {ok : Nat → Prop} {ad : Addr} {n c : Nat} {xs : List α} {g : Nat} (h : Kd.V d e W base ok (.slice (some ad) n c) xs) (hs : 0 < d.sz) (hp : 0 < xs.length) (hne : ∀ k, ok k → k ≠ g) : ad.block ≠ g := by
  have hn := (Kd.V_at h).1
  obtain ⟨ad', cs, he, _, _, _, hk⟩ := Kd.F_get (Kd.V_F h) (xs.get ⟨0, hp⟩) 0 (by omega) (by omega)
  injection he with he
  subst he
  exact hne _ (hk hs)
/-! ### rollcallref17_Pop: function 16 -/
def rollcallref17_Pop.f (l0_0 : List (S33)) (a0_1 : Bool) : Option (ByteArray × Bool × Int × Int × Int × ByteArray × (List (S33)) × Bool × Bool) := if (l0_0.length : Int) = 0 then (some ((⟨#[]⟩ : ByteArray), false, 0, 0, 0, (⟨#[]⟩ : ByteArray), l0_0, a0_1, false)) else (if 0 < (l0_0.length : Int) then (if 1 ≤ (l0_0.length : Int) then (some ((rd_T33 l0_0 0).f0, (rd_T33 l0_0 0).f1, (rd_T33 l0_0 0).f2.f0, (rd_T33 l0_0 0).f2.f1, (rd_T33 l0_0 0).f2.f2, (rd_T33 l0_0 0).f2.f3, (l0_0.drop 1), a0_1, true)) else (none)) else (none))
def rollcallref17_Pop.T3 : Bool × List (List Nat × List Nat) := (true, [([], []), ([0], [0]), ([1], [1]), ([2], [2]), ([], []), ([4], [4]), ([5], [5]), ([], []), ([7], [7]), ([6, 8], [6, 8]), ([3, 0, 1, 2, 3], [3]), ([9, 10, 0, 1, 2, 3, 4, 5, 6, 7, 8, 9, 10], [9]), ([11, 0, 1, 2, 3, 4, 5, 6, 7, 8, 9, 10, 11], [])])
def rollcallref17_Pop.B3 : List Nat := [0, 1, 3, 7, 0, 16, 48, 0, 128, 496, 15, 2047, 4095]
theorem rollcallref17_Pop.tab3 : rtab .any (opsOf Try.f16 3) = rollcallref17_Pop.T3 := by kernel_rfl
theorem rollcallref17_Pop.bits3 : waitsOk rollcallref17_Pop.T3.2 rollcallref17_Pop.B3 = true := by kernel_rfl
set_option maxHeartbeats 8000000 in
set_option maxRecDepth 100000 in
theorem rollcallref17_Pop.calls (P0_0_ : Nat → Prop) (A0_0 : Option Addr) (c0_0 : Nat) (l0_0 : List (S33)) (a0_1 : Bool) (r1 : ByteArray) (r2 : Bool) (r3 : Int) (r4 : Int) (r5 : Int) (r6 : ByteArray) (r7 : List (S33)) (r8 : Bool) (r9 : Bool) (w : World) (hs0_0 : Kd.V k33 33 w w.heap.size (fun k_ => P0_0_ k_) (.slice A0_0 l0_0.length c0_0) l0_0) (h : rollcallref17_Pop.f l0_0 a0_1 = some (r1, r2, r3, r4, r5, r6, r7, r8, r9)) :
    Calls Try.prog 16 #[.agg #[.slice A0_0 l0_0.length c0_0, .bool a0_1]] w fun e w' => ∃ v6_ : Value, e = .returned (.tuple #[.agg #[.string r1, .bool r2, .int .i64 r3, .int .i64 r4, .int .i64 r5, .string r6], .agg #[v6_, .bool r8], .bool r9]) ∧ Kd.V k33 33 w' w.heap.size (fun k_ => (P0_0_ k_ ∨ w.heap.size ≤ k_)) v6_ r7 ∧ Below w.heap.size w w' := by
  have hu24 := Try.underlying24
  have hu33 := Try.underlying33
  have HO0_0 := Aside0.mk (show Kd.V k33 33 w w.heap.size (fun k_ => (P0_0_ k_ ∨ w.heap.size ≤ k_)) (.slice A0_0 l0_0.length c0_0) l0_0 from Kd.V_mono hs0_0 (fun k_ hk => .inl hk))
  have HB := Aside0.mk (Below.refl w.heap.size w)
  have H : (if (l0_0.length : Int) = 0 then (some ((⟨#[]⟩ : ByteArray), false, 0, 0, 0, (⟨#[]⟩ : ByteArray), l0_0, a0_1, false)) else (if 0 < (l0_0.length : Int) then (if 1 ≤ (l0_0.length : Int) then (some ((rd_T33 l0_0 0).f0, (rd_T33 l0_0 0).f1, (rd_T33 l0_0 0).f2.f0, (rd_T33 l0_0 0).f2.f1, (rd_T33 l0_0 0).f2.f2, (rd_T33 l0_0 0).f2.f3, (l0_0.drop 1), a0_1, true)) else (none)) else (none))) = some (r1, r2, r3, r4, r5, r6, r7, r8, r9) := h
  clear h
  by_cases c2 : (l0_0.length : Int) = 0
  · rw [if_pos c2] at H
    have c2b0 : ((l0_0.length : Int) == 0) = true := beq_iff_eq.mpr c2
    have c2b1 : ((l0_0.length : Int) != 0) = false := bne_eq_false_iff_eq.mpr c2
    clear c2
    simp only [Option.some.injEq, Prod.mk.injEq] at H
    obtain ⟨rfl, rfl, rfl, rfl, rfl, rfl, rfl, rfl, rfl⟩ := H
    go_enter Try.func16, Try.ntmps16
    try go_wp2_with (first | ((with_reducible refine gate_dst (N := 1) rfl ?_); refine box_event ?hg (N := 1) ?hd (cs := #[.slice A0_0 l0_0.length c0_0, .bool a0_1]) (t := 24) ?hr ?_; (case hd => rfl); (case hg => rfl); (case hr => first | (go_simp; done) | (go_simp; rfl)); intro gb258 hg w3 hbox hb; replace HO0_0 := Aside0.mk (Kd.V_below (Kd.V_elderB (vS HO0_0.out) gb258 (Nat.le_of_eq hg.symm)) hb); have BK258 := Aside0.mk (hbox); have GW258 := Aside0.mk ((by rw [hg]; exact (below_size (hS HB.out)) : w.heap.size ≤ gb258)); have GE258 := Aside0.mk ((by rw [hg]; exact (below_size (hS HB.out)) : w.heap.size ≤ gb258)); replace HB := Aside0.mk (below_step (hS HB.out) hb); clear hb hbox hg) | ((with_reducible refine gate_dst (N := 2) rfl ?_); refine box_event ?hg (N := 2) ?hd (cs := #[.string (⟨#[]⟩ : ByteArray), .bool false, .int .i64 0, .int .i64 0, .int .i64 0, .string (⟨#[]⟩ : ByteArray)]) (t := 33) ?hr ?_; (case hd => rfl); (case hg => rfl); (case hr => first | (go_simp; done) | (go_simp; rfl)); intro gb259 hg w4 hbox hb; replace HO0_0 := Aside0.mk (Kd.V_below (Kd.V_elderB (vS HO0_0.out) gb259 (Nat.le_of_eq hg.symm)) hb); have BK259 := Aside0.mk (hbox); have GW259 := Aside0.mk ((by rw [hg]; exact (below_size (hS HB.out)) : w.heap.size ≤ gb259)); have GE259 := Aside0.mk ((by rw [hg]; exact (below_size (hS HB.out)) : w.heap.size ≤ gb259)); replace HB := Aside0.mk (below_step (hS HB.out) hb); have NB258_259 := Aside0.mk ((by rw [hg]; exact Nat.ne_of_lt (blk_lt (bS BK258.out)) : gb258 ≠ gb259)); have NB259_258 := Aside0.mk ((by rw [hg]; exact Nat.ne_of_gt (blk_lt (bS BK258.out)) : gb259 ≠ gb258)); replace BK258 := Aside0.mk (blk_below (bS BK258.out) hb); clear hb hbox hg) | ((with_reducible refine gate_dst (N := 3) rfl ?_); refine box_event ?hg (N := 3) ?hd (cs := #[.slice none 0 0, .bool false]) (t := 24) ?hr ?_; (case hd => rfl); (case hg => rfl); (case hr => first | (go_simp; done) | (go_simp; rfl)); intro gb260 hg w5 hbox hb; replace HO0_0 := Aside0.mk (Kd.V_below (Kd.V_elderB (vS HO0_0.out) gb260 (Nat.le_of_eq hg.symm)) hb); have BK260 := Aside0.mk (hbox); have GW260 := Aside0.mk ((by rw [hg]; exact (below_size (hS HB.out)) : w.heap.size ≤ gb260)); have GE260 := Aside0.mk ((by rw [hg]; exact (below_size (hS HB.out)) : w.heap.size ≤ gb260)); replace HB := Aside0.mk (below_step (hS HB.out) hb); have NB258_260 := Aside0.mk ((by rw [hg]; exact Nat.ne_of_lt (blk_lt (bS BK258.out)) : gb258 ≠ gb260)); have NB260_258 := Aside0.mk ((by rw [hg]; exact Nat.ne_of_gt (blk_lt (bS BK258.out)) : gb260 ≠ gb258)); replace BK258 := Aside0.mk (blk_below (bS BK258.out) hb); have NB259_260 := Aside0.mk ((by rw [hg]; exact Nat.ne_of_lt (blk_lt (bS BK259.out)) : gb259 ≠ gb260)); have NB260_259 := Aside0.mk ((by rw [hg]; exact Nat.ne_of_gt (blk_lt (bS BK259.out)) : gb260 ≠ gb259)); replace BK259 := Aside0.mk (blk_below (bS BK259.out) hb); clear hb hbox hg; have hnb6 := NB258_259.out; have hnc6 := NB259_258.out; have hnb7 := NB258_260.out; have hnc7 := NB260_258.out; have hcz8_0 : w5.cell? ⟨gb258, 0, none⟩ = some (.slice A0_0 l0_0.length c0_0) := (blk_cell BK258.out 0).trans rfl; have hcz8_1 : w5.cell? ⟨gb258, 1, none⟩ = some (.bool a0_1) := (blk_cell BK258.out 1).trans rfl; have hfz8_0 := blk_frozen BK258.out 0; have hfz8_1 := blk_frozen BK258.out 1))
    replace HO0_0 := Aside0.mk (Kd.V_drew HO0_0.out)
    replace BK258 := Aside0.mk (blk_drew BK258.out)
    replace BK259 := Aside0.mk (blk_drew BK259.out)
    replace BK260 := Aside0.mk (blk_drew BK260.out)
    replace HB := Aside0.mk (below_drew1 HB.out)
    refine start_ (n := 5) (S := fun w' => w'.cell? ⟨gb258, 0, none⟩ = some (.slice A0_0 l0_0.length c0_0) ∧ w'.cell? ⟨gb258, 1, none⟩ = some (.bool a0_1)) (ds := []) #[false, false, false, false, false] (by kernel_rfl) rfl rfl ⟨(blk_cell BK258.out 0).trans rfl, (blk_cell BK258.out 1).trans rfl⟩ (fun hHeld => ?_)
    generalize w5.drew = w9 at HO0_0 BK258 BK259 BK260 HB hHeld ⊢
    refine pure_ (i := 0) (N := some 9) (v := ?_) (a' := ?_) #[true, false, false, false, false] rfl rfl (by kernel_rfl) (fun _ _ _ h => h) (Or.inl ⟨by rfl, ?_⟩) ?_ ?_
    rotate_left
    · intro w'
      go_simp
      with_reducible rfl
    rotate_left
    · simp only [Act.put, List.setIfInBounds_toArray, List.set_cons_zero, List.set_cons_succ, i64_w, i32_w]
      rfl
    refine take_ (i := 1) (N := some 10) (v := ?_) (a' := ?_) #[true, true, false, false, false] rfl rfl (by kernel_rfl) (fun _ _ _ h => h) (Or.inl ⟨by rfl, ?_⟩) hHeld ?_ ?_
    rotate_left
    · rintro w' ⟨s0, s1⟩
      go_simp
      with_reducible rfl
    rotate_left
    · simp only [Act.put, List.setIfInBounds_toArray, List.set_cons_zero, List.set_cons_succ, i64_w, i32_w]
      rfl
    refine one_ (i := 2) (N := none) #[true, true, true, false, false] rfl rfl (by kernel_rfl) (by decide) (fun K hK => ?_)
    have hs10 : w9.cell? ⟨gb259, 0, none⟩ = some (.string (⟨#[]⟩ : ByteArray)) := (blk_cell BK259.out 0).trans rfl
    have hfs10 := blk_frozen BK259.out 0
    have hns10_0 := NB258_259.out
    have hns10_2 := NB260_259.out
    have hms10_0 := NB259_258.out
    have hms10_2 := NB259_260.out
    have hs11 : w9.cell? ⟨gb259, 1, none⟩ = some (.bool false) := (blk_cell BK259.out 1).trans rfl
    have hfs11 := blk_frozen BK259.out 1
    have hns11_0 := NB258_259.out
    have hns11_2 := NB260_259.out
    have hms11_0 := NB259_258.out
    have hms11_2 := NB259_260.out
    have hs12 : w9.cell? ⟨gb259, 2, none⟩ = some (.int .i64 0) := (blk_cell BK259.out 2).trans rfl
    have hfs12 := blk_frozen BK259.out 2
    have hns12_0 := NB258_259.out
    have hns12_2 := NB260_259.out
    have hms12_0 := NB259_258.out
    have hms12_2 := NB259_260.out
    have hs13 : w9.cell? ⟨gb259, 3, none⟩ = some (.int .i64 0) := (blk_cell BK259.out 3).trans rfl
    have hfs13 := blk_frozen BK259.out 3
    have hns13_0 := NB258_259.out
    have hns13_2 := NB260_259.out
    have hms13_0 := NB259_258.out
    have hms13_2 := NB259_260.out
    have hs14 : w9.cell? ⟨gb259, 4, none⟩ = some (.int .i64 0) := (blk_cell BK259.out 4).trans rfl
    have hfs14 := blk_frozen BK259.out 4
    have hns14_0 := NB258_259.out
    have hns14_2 := NB260_259.out
    have hms14_0 := NB259_258.out
    have hms14_2 := NB259_260.out
    have hs15 : w9.cell? ⟨gb259, 5, none⟩ = some (.string (⟨#[]⟩ : ByteArray)) := (blk_cell BK259.out 5).trans rfl
    have hfs15 := blk_frozen BK259.out 5
    have hns15_0 := NB258_259.out
    have hns15_2 := NB260_259.out
    have hms15_0 := NB259_258.out
    have hms15_2 := NB259_260.out
    refine skip_ (w1 := ?_) (by rfl) rfl ?_ ?_
    rotate_left
    · go_simp
      rfl
    refine hK.out _ _ ⟨((cell_far (p := ⟨gb259, _, none⟩) NB258_259.out _).trans (((cell_far (p := ⟨gb259, _, none⟩) NB258_259.out _).trans (((cell_far (p := ⟨gb259, _, none⟩) NB258_259.out _).trans (((cell_far (p := ⟨gb259, _, none⟩) NB258_259.out _).trans (((cell_far (p := ⟨gb259, _, none⟩) NB258_259.out _).trans (((cell_far (p := ⟨gb259, _, none⟩) NB258_259.out _).trans (hHeld.1)))))))))))), ((cell_far (p := ⟨gb259, _, none⟩) NB258_259.out _).trans (((cell_far (p := ⟨gb259, _, none⟩) NB258_259.out _).trans (((cell_far (p := ⟨gb259, _, none⟩) NB258_259.out _).trans (((cell_far (p := ⟨gb259, _, none⟩) NB258_259.out _).trans (((cell_far (p := ⟨gb259, _, none⟩) NB258_259.out _).trans (((cell_far (p := ⟨gb259, _, none⟩) NB258_259.out _).trans (hHeld.2))))))))))))⟩ (fun hHeld => ?_)
    clear hK K
    clear hs10 hfs10 hns10_0 hns10_2 hms10_0 hms10_2 hs11 hfs11 hns11_0 hns11_2 hms11_0 hms11_2 hs12 hfs12 hns12_0 hns12_2 hms12_0 hms12_2 hs13 hfs13 hns13_0 hns13_2 hms13_0 hms13_2 hs14 hfs14 hns14_0 hns14_2 hms14_0 hms14_2 hs15 hfs15 hns15_0 hns15_2 hms15_0 hms15_2
    generalize hq_ : ((((((w9.setCell ⟨gb259, 0, none⟩ (.string (⟨#[]⟩ : ByteArray))).setCell ⟨gb259, 1, none⟩ (.bool false)).setCell ⟨gb259, 2, none⟩ (.int .i64 0)).setCell ⟨gb259, 3, none⟩ (.int .i64 0)).setCell ⟨gb259, 4, none⟩ (.int .i64 0)).setCell ⟨gb259, 5, none⟩ (.string (⟨#[]⟩ : ByteArray))) = w9_c at hHeld ⊢
    have z_ := @id (((((((w9.setCell ⟨gb259, 0, none⟩ (.string (⟨#[]⟩ : ByteArray))).setCell ⟨gb259, 1, none⟩ (.bool false)).setCell ⟨gb259, 2, none⟩ (.int .i64 0)).setCell ⟨gb259, 3, none⟩ (.int .i64 0)).setCell ⟨gb259, 4, none⟩ (.int .i64 0)).setCell ⟨gb259, 5, none⟩ (.string (⟨#[]⟩ : ByteArray))).heap[gb259]? = some _) (bS (blk_put (bS (blk_put (bS (blk_put (bS (blk_put (bS (blk_put (bS (blk_put (bS BK259.out) 0 _ rfl)) 1 _ rfl)) 2 _ rfl)) 3 _ rfl)) 4 _ rfl)) 5 _ rfl)); rw [hq_] at z_; replace BK259 := Aside0.mk z_; clear z_
    have z_ := @id (((((((w9.setCell ⟨gb259, 0, none⟩ (.string (⟨#[]⟩ : ByteArray))).setCell ⟨gb259, 1, none⟩ (.bool false)).setCell ⟨gb259, 2, none⟩ (.int .i64 0)).setCell ⟨gb259, 3, none⟩ (.int .i64 0)).setCell ⟨gb259, 4, none⟩ (.int .i64 0)).setCell ⟨gb259, 5, none⟩ (.string (⟨#[]⟩ : ByteArray))).heap[gb260]? = some _) (bF BK260.out NB260_259.out); rw [hq_] at z_; replace BK260 := Aside0.mk z_; clear z_
    have z_ := @id (Kd.V _ _ ((((((w9.setCell ⟨gb259, 0, none⟩ (.string (⟨#[]⟩ : ByteArray))).setCell ⟨gb259, 1, none⟩ (.bool false)).setCell ⟨gb259, 2, none⟩ (.int .i64 0)).setCell ⟨gb259, 3, none⟩ (.int .i64 0)).setCell ⟨gb259, 4, none⟩ (.int .i64 0)).setCell ⟨gb259, 5, none⟩ (.string (⟨#[]⟩ : ByteArray))) _ _ _ _) (vF (b := gb259) (Kd.V_mono HO0_0.out (fun k_ hk => (⟨hk, hk.1.2⟩ : _ ∧ k_ ≠ gb259))) (fun _ hk => hk.2)); rw [hq_] at z_; replace HO0_0 := Aside0.mk z_; clear z_
    replace HB : Aside0 (Below w.heap.size w w9_c) := ⟨by rw [← hq_]; exact (by repeat (first | (with_reducible first | exact HB.out | apply below_alloc | apply pw_below_drewN | apply below_drew1 | refine below_set ?_ GE258.out | refine below_set ?_ GE259.out | refine below_set ?_ GE260.out) | exact HB.out))⟩
    clear hq_
    refine one_ (i := 3) (N := none) #[true, true, true, true, false] rfl rfl (by kernel_rfl) (by decide) (fun K hK => ?_)
    have hs16 : w9_c.cell? ⟨gb260, 0, none⟩ = some (.slice none 0 0) := (blk_cell BK260.out 0).trans rfl
    have hfs16 := blk_frozen BK260.out 0
    have hns16_0 := NB258_260.out
    have hns16_1 := NB259_260.out
    have hms16_0 := NB260_258.out
    have hms16_1 := NB260_259.out
    have hs17 : w9_c.cell? ⟨gb260, 1, none⟩ = some (.bool false) := (blk_cell BK260.out 1).trans rfl
    have hfs17 := blk_frozen BK260.out 1
    have hns17_0 := NB258_260.out
    have hns17_1 := NB259_260.out
    have hms17_0 := NB260_258.out
    have hms17_1 := NB260_259.out
    refine skip_ (w1 := ?_) (by rfl) rfl ?_ ?_
    rotate_left
    · go_simp
      rfl
    refine hK.out _ _ ⟨((cell_far (p := ⟨gb260, _, none⟩) NB258_260.out _).trans (((cell_far (p := ⟨gb260, _, none⟩) NB258_260.out _).trans (hHeld.1)))), ((cell_far (p := ⟨gb260, _, none⟩) NB258_260.out _).trans (((cell_far (p := ⟨gb260, _, none⟩) NB258_260.out _).trans (hHeld.2))))⟩ (fun hHeld => ?_)
    clear hK K
    refine pure_ (i := 4) (N := some 4) (v := ?_) (a' := ?_) #[true, true, true, true, true] rfl rfl (by kernel_rfl) (fun _ _ _ h => h) (Or.inl ⟨by rfl, ?_⟩) ?_ ?_
    rotate_left
    · intro w'
      go_simp
      with_reducible rfl
    rotate_left
    · simp only [Act.put, List.setIfInBounds_toArray, List.set_cons_zero, List.set_cons_succ, i64_w, i32_w]
      rfl
    refine done_ (by kernel_rfl) ?_
    try go_wp2
    refine bodyPost_ret (results_list (rs := [.cell 2 33, .cell 3 24, .tmp 4]) rfl (by simp) (.cell gb259 33 #[.string (⟨#[]⟩ : ByteArray), .bool false, .int .i64 0, .int .i64 0, .int .i64 0, .string (⟨#[]⟩ : ByteArray)] (0, 0) _ rfl (bF BK259.out NB259_260.out) Try.underlying33 rfl (by kernel_rfl) (.cell gb260 24 #[.slice A0_0 l0_0.length c0_0, .bool a0_1] (0, 0) _ rfl (bS (blk_put (bS (blk_put BK260.out 0 _ rfl)) 1 _ rfl)) Try.underlying24 rfl (by kernel_rfl) (.tmp .nil)))) rfl ?_
    exact ⟨_, by first | rfl | (simp [errW_none, errW_some] <;> rfl) | (simp [*, errW_none, errW_some] <;> rfl), by (with_reducible repeat (first | apply Kd.V_alloc | apply Kd.V_drewN | apply Kd.V_drew)); exact Kd.V_mono (vF (b := gb260) (Kd.V_mono HO0_0.out (fun k_ hk => (⟨hk, hk.1.2⟩ : _ ∧ k_ ≠ gb260))) (fun _ hk => hk.2)) (fun _ hk => hk.1.1.1.1.1), by repeat (first | (with_reducible first | exact HB.out | apply below_alloc | apply pw_below_drewN | apply below_drew1 | refine below_set ?_ GE258.out | refine below_set ?_ GE259.out | refine below_set ?_ GE260.out) | exact HB.out)⟩
  · rw [if_neg c2] at H
    have c2b0 : ((l0_0.length : Int) == 0) = false := beq_eq_false_iff_ne.mpr c2
    have c2b1 : ((l0_0.length : Int) != 0) = true := bne_iff_ne.mpr c2
    have c2b2 : ¬ (l0_0 = []) := fun h_ => c2 (by rw [h_]; rfl)
    by_cases c18 : 0 < (l0_0.length : Int)
    · rw [if_pos c18] at H
      have c18b0 : decide (0 < (l0_0.length : Int)) = true := decide_eq_true c18
      have c18b1 : decide (0 < l0_0.length) = true := decide_eq_true (by omega)
      clear c18
      by_cases c19 : 1 ≤ (l0_0.length : Int)
      · rw [if_pos c19] at H
        have c19b0 := eq_true c19
        have c19b1 : decide (1 ≤ (l0_0.length : Int)) = true := decide_eq_true c19
        clear c19
        obtain ⟨y262, hy262⟩ : ∃ y_ : List (S33), y_ = (l0_0.drop 1) := ⟨_, rfl⟩
        replace H : (some ((rd_T33 l0_0 0).f0, (rd_T33 l0_0 0).f1, (rd_T33 l0_0 0).f2.f0, (rd_T33 l0_0 0).f2.f1, (rd_T33 l0_0 0).f2.f2, (rd_T33 l0_0 0).f2.f3, y262, a0_1, true)) = some (r1, r2, r3, r4, r5, r6, r7, r8, r9) := by first | (rw [hy262]; with_reducible exact H) | (have H2_ := (Option.bind_some _ _).symm.trans H; rw [hy262]; with_reducible exact H2_) | (have H2_ := (Option.bind_some _ _).symm.trans H; with_reducible exact H2_) | with_reducible exact H | (rw [hy262]; exact H) | exact H
        have Ny262 := Aside0.mk hy262
        clear hy262
        simp only [Option.some.injEq, Prod.mk.injEq] at H
        obtain ⟨rfl, rfl, rfl, rfl, rfl, rfl, rfl, rfl, rfl⟩ := H
        go_enter Try.func16, Try.ntmps16
        try go_wp2_with (first | ((with_reducible refine gate_dst (N := 1) rfl ?_); refine box_event ?hg (N := 1) ?hd (cs := #[.slice A0_0 l0_0.length c0_0, .bool a0_1]) (t := 24) ?hr ?_; (case hd => rfl); (case hg => rfl); (case hr => first | (go_simp; done) | (go_simp; rfl)); intro gb258 hg w20 hbox hb; replace HO0_0 := Aside0.mk (Kd.V_below (Kd.V_elderB (vS HO0_0.out) gb258 (Nat.le_of_eq hg.symm)) hb); have BK258 := Aside0.mk (hbox); have GW258 := Aside0.mk ((by rw [hg]; exact (below_size (hS HB.out)) : w.heap.size ≤ gb258)); have GE258 := Aside0.mk ((by rw [hg]; exact (below_size (hS HB.out)) : w.heap.size ≤ gb258)); replace HB := Aside0.mk (below_step (hS HB.out) hb); clear hb hbox hg) | ((with_reducible refine gate_dst (N := 2) rfl ?_); refine box_event ?hg (N := 2) ?hd (cs := #[.string (⟨#[]⟩ : ByteArray), .bool false, .int .i64 0, .int .i64 0, .int .i64 0, .string (⟨#[]⟩ : ByteArray)]) (t := 33) ?hr ?_; (case hd => rfl); (case hg => rfl); (case hr => first | (go_simp; done) | (go_simp; rfl)); intro gb259 hg w21 hbox hb; replace HO0_0 := Aside0.mk (Kd.V_below (Kd.V_elderB (vS HO0_0.out) gb259 (Nat.le_of_eq hg.symm)) hb); have BK259 := Aside0.mk (hbox); have GW259 := Aside0.mk ((by rw [hg]; exact (below_size (hS HB.out)) : w.heap.size ≤ gb259)); have GE259 := Aside0.mk ((by rw [hg]; exact (below_size (hS HB.out)) : w.heap.size ≤ gb259)); replace HB := Aside0.mk (below_step (hS HB.out) hb); have NB258_259 := Aside0.mk ((by rw [hg]; exact Nat.ne_of_lt (blk_lt (bS BK258.out)) : gb258 ≠ gb259)); have NB259_258 := Aside0.mk ((by rw [hg]; exact Nat.ne_of_gt (blk_lt (bS BK258.out)) : gb259 ≠ gb258)); replace BK258 := Aside0.mk (blk_below (bS BK258.out) hb); clear hb hbox hg) | ((with_reducible refine gate_dst (N := 3) rfl ?_); refine box_event ?hg (N := 3) ?hd (cs := #[.slice none 0 0, .bool false]) (t := 24) ?hr ?_; (case hd => rfl); (case hg => rfl); (case hr => first | (go_simp; done) | (go_simp; rfl)); intro gb260 hg w22 hbox hb; replace HO0_0 := Aside0.mk (Kd.V_below (Kd.V_elderB (vS HO0_0.out) gb260 (Nat.le_of_eq hg.symm)) hb); have BK260 := Aside0.mk (hbox); have GW260 := Aside0.mk ((by rw [hg]; exact (below_size (hS HB.out)) : w.heap.size ≤ gb260)); have GE260 := Aside0.mk ((by rw [hg]; exact (below_size (hS HB.out)) : w.heap.size ≤ gb260)); replace HB := Aside0.mk (below_step (hS HB.out) hb); have NB258_260 := Aside0.mk ((by rw [hg]; exact Nat.ne_of_lt (blk_lt (bS BK258.out)) : gb258 ≠ gb260)); have NB260_258 := Aside0.mk ((by rw [hg]; exact Nat.ne_of_gt (blk_lt (bS BK258.out)) : gb260 ≠ gb258)); replace BK258 := Aside0.mk (blk_below (bS BK258.out) hb); have NB259_260 := Aside0.mk ((by rw [hg]; exact Nat.ne_of_lt (blk_lt (bS BK259.out)) : gb259 ≠ gb260)); have NB260_259 := Aside0.mk ((by rw [hg]; exact Nat.ne_of_gt (blk_lt (bS BK259.out)) : gb260 ≠ gb259)); replace BK259 := Aside0.mk (blk_below (bS BK259.out) hb); clear hb hbox hg; have hnb23 := NB258_259.out; have hnc23 := NB259_258.out; have hnb24 := NB258_260.out; have hnc24 := NB260_258.out; have hcz25_0 : w22.cell? ⟨gb258, 0, none⟩ = some (.slice A0_0 l0_0.length c0_0) := (blk_cell BK258.out 0).trans rfl; have hcz25_1 : w22.cell? ⟨gb258, 1, none⟩ = some (.bool a0_1) := (blk_cell BK258.out 1).trans rfl; have hfz25_0 := blk_frozen BK258.out 0; have hfz25_1 := blk_frozen BK258.out 1))
        replace HO0_0 := Aside0.mk (Kd.V_drew HO0_0.out)
        replace BK258 := Aside0.mk (blk_drew BK258.out)
        replace BK259 := Aside0.mk (blk_drew BK259.out)
        replace BK260 := Aside0.mk (blk_drew BK260.out)
        replace HB := Aside0.mk (below_drew1 HB.out)
        have p261 : 0 ≤ (0 : Int) := (by omega)
        have q261 : 0 < (l0_0.length : Int) := of_decide_eq_true (by first | (with_reducible assumption) | assumption)
        obtain ⟨ad261, e261, hx261_0, hx261_1, hx261_2, hx261_3, hx261_4, hx261_5⟩ := at_T33 (Kd.V_reads' HO0_0.out).2.2 0 p261 q261
        cases e261
        have qi261 : (0 < l0_0.length) = True := eq_true (by omega)
        (try rw [show ((0 : Int)).toNat = 0 from rfl] at hx261_0)
        (try rw [show 0 * 6 = 0 from rfl] at hx261_0)
        (try rw [Addr.add_zero'] at hx261_0)
        (try rw [show ((0 : Int)).toNat = 0 from rfl] at hx261_1)
        (try rw [show 0 * 6 = 0 from rfl] at hx261_1)
        (try rw [Addr.add_zero'] at hx261_1)
        (try rw [show ((0 : Int)).toNat = 0 from rfl] at hx261_2)
        (try rw [show 0 * 6 = 0 from rfl] at hx261_2)
        (try rw [Addr.add_zero'] at hx261_2)
        (try rw [show ((0 : Int)).toNat = 0 from rfl] at hx261_3)
        (try rw [show 0 * 6 = 0 from rfl] at hx261_3)
        (try rw [Addr.add_zero'] at hx261_3)
        (try rw [show ((0 : Int)).toNat = 0 from rfl] at hx261_4)
        (try rw [show 0 * 6 = 0 from rfl] at hx261_4)
        (try rw [Addr.add_zero'] at hx261_4)
        (try rw [show ((0 : Int)).toNat = 0 from rfl] at hx261_5)
        (try rw [show 0 * 6 = 0 from rfl] at hx261_5)
        (try rw [Addr.add_zero'] at hx261_5)
        replace p261 := eq_true p261
        replace q261 := eq_true q261
        have q27 : (1 : Int) ≤ ((l0_0.length : Int) : Int) := of_decide_eq_true (by first | (with_reducible assumption) | assumption)
        obtain ⟨i027, hi027, _, hsz27, _⟩ := info_parts info33
        have hroom27 : l0_0.length ≤ c0_0 := (Kd.V_reads' HO0_0.out).2.1
        have hC27 : Kd.F k33 _ _ (some ad261) l0_0.length l0_0 := (Kd.V_at (base := w.heap.size) HO0_0.out).2.2
        have hcut27 := cut_from (P := Try.prog) 22 33 .i64 Try.underlying22 hi027 6 hsz27 (some ad261) l0_0.length c0_0 1 (by omega) q27
        have hr27 := Kd.F_cut (m := (1 : Int).toNat) (c := c0_0) hC27 (by omega) hroom27
        obtain ⟨A27, hA27⟩ : ∃ A1, A1 = (if c0_0 = (1 : Int).toNat then (some ad261) else ((some ad261) : Option Addr).map (·.add ((1 : Int).toNat * 6))) := ⟨_, rfl⟩
        obtain ⟨c27, hc27⟩ : ∃ c1, c1 = c0_0 - (1 : Int).toNat := ⟨_, rfl⟩
        have hy27 : y262.length = l0_0.length - (1 : Int).toNat := (by rw [Ny262.out, List.length_drop] <;> omega)
        rw [show (l0_0).drop (1 : Int).toNat = y262 from Ny262.out.symm] at hr27
        replace hr27 : Kd.F k33 _ _ A27 y262.length y262 := (by rw [hA27]; exact hr27)
        rw [← hy27, ← hA27, ← hc27] at hcut27
        have HO266 := Aside0.mk (show Kd.V k33 33 _ w.heap.size _ (.slice A27 y262.length c27) y262 from Kd.V_mk (by rw [hy27, hc27]; exact Nat.sub_le_sub_right hroom27 _) hr27)
        have HC266 := Aside0.mk (show y262.length ≤ c27 from by rw [hy27, hc27]; exact Nat.sub_le_sub_right hroom27 _)
        clear hr27 hC27 hroom27 hi027 hsz27 hc27
        have KY27 := Aside0.mk hy27
        have KA27 := Aside0.mk hA27
        clear hy27 hA27
        replace q27 := eq_true q27
        refine start_ (n := 13) (S := fun w' => w'.cell? ⟨gb258, 0, none⟩ = some (.slice (some ad261) l0_0.length c0_0) ∧ w'.cell? ⟨gb258, 1, none⟩ = some (.bool a0_1) ∧ w'.cell? ad261 = some (.string ((rd_T33 l0_0 0).f0)) ∧ w'.cell? ⟨ad261.block, ad261.off + 1, none⟩ = some (.bool ((rd_T33 l0_0 0).f1)) ∧ w'.cell? ⟨ad261.block, ad261.off + 2, none⟩ = some (.int .i64 ((rd_T33 l0_0 0).f2.f0)) ∧ w'.cell? ⟨ad261.block, ad261.off + 3, none⟩ = some (.int .i64 ((rd_T33 l0_0 0).f2.f1)) ∧ w'.cell? ⟨ad261.block, ad261.off + 4, none⟩ = some (.int .i64 ((rd_T33 l0_0 0).f2.f2)) ∧ w'.cell? ⟨ad261.block, ad261.off + 5, none⟩ = some (.string ((rd_T33 l0_0 0).f2.f3))) (ds := []) #[false, false, false, false, false, false, false, false, false, false, false, false, false] (by kernel_rfl) rfl rfl ⟨(blk_cell BK258.out 0).trans rfl, (blk_cell BK258.out 1).trans rfl, hx261_0, hx261_1, hx261_2, hx261_3, hx261_4, hx261_5⟩ (fun hHeld => ?_); refine with_tabW rollcallref17_Pop.tab3 rollcallref17_Pop.bits3 (fun HT_ HW_ => ?_)
        generalize w22.drew = w26 at HO0_0 BK258 BK259 BK260 HB HO266 hx261_0 hx261_1 hx261_2 hx261_3 hx261_4 hx261_5 hHeld ⊢
        refine pure_ (i := 0) (N := some 11) (v := ?_) (a' := ?_) #[true, false, false, false, false, false, false, false, false, false, false, false, false] rfl rfl (any_of HT_.out (by kernel_rfl)) (fun _ _ _ h => h) (Or.inl ⟨by rfl, ?_⟩) ?_ ?_
        rotate_left
        · intro w'
          go_simp
          with_reducible rfl
        rotate_left
        · simp only [Act.put, List.setIfInBounds_toArray, List.set_cons_zero, List.set_cons_succ, i64_w, i32_w]
          rfl
        refine pure_ (i := 4) (N := some 15) (v := ?_) (a' := ?_) #[true, false, false, false, true, false, false, false, false, false, false, false, false] rfl rfl (any_of HT_.out (by kernel_rfl)) (fun _ _ _ h => h) (Or.inl ⟨by rfl, ?_⟩) ?_ ?_
        rotate_left
        · intro w'
          go_simp
          with_reducible rfl
        rotate_left
        · simp only [Act.put, List.setIfInBounds_toArray, List.set_cons_zero, List.set_cons_succ, i64_w, i32_w]
          rfl
        refine pure_ (i := 7) (N := some 18) (v := ?_) (a' := ?_) #[true, false, false, false, true, false, false, true, false, false, false, false, false] rfl rfl (any_of HT_.out (by kernel_rfl)) (fun _ _ _ h => h) (Or.inl ⟨by rfl, ?_⟩) ?_ ?_
        rotate_left
        · intro w'
          go_simp
          with_reducible rfl
        rotate_left
        · simp only [Act.put, List.setIfInBounds_toArray, List.set_cons_zero, List.set_cons_succ, i64_w, i32_w]
          rfl
        refine take_ (i := 1) (N := some 12) (v := ?_) (a' := ?_) #[true, true, false, false, true, false, false, true, false, false, false, false, false] rfl rfl (take_ofW HT_.out HW_.out (by kernel_rfl)) (fun _ _ _ h => h) (Or.inl ⟨by rfl, ?_⟩) hHeld ?_ ?_
        rotate_left
        · rintro w' ⟨s0, s1, s2, s3, s4, s5, s6, s7⟩
          go_simp
          with_reducible rfl
        rotate_left
        · simp only [Act.put, List.setIfInBounds_toArray, List.set_cons_zero, List.set_cons_succ, i64_w, i32_w]
          rfl
        refine pure_ (i := 2) (N := some 13) (v := ?_) (a' := ?_) #[true, true, true, false, true, false, false, true, false, false, false, false, false] rfl rfl (any_of HT_.out (by kernel_rfl)) (fun _ _ _ h => h) (Or.inl ⟨by rfl, ?_⟩) ?_ ?_
        rotate_left
        · intro w'
          go_simp
          with_reducible rfl
        rotate_left
        · simp only [Act.put, List.setIfInBounds_toArray, List.set_cons_zero, List.set_cons_succ, i64_w, i32_w]
          rfl
        refine take_ (i := 3) (N := some 14) (v := ?_) (a' := ?_) #[true, true, true, true, true, false, false, true, false, false, false, false, false] rfl rfl (take_ofW HT_.out HW_.out (by kernel_rfl)) (fun _ _ _ h => h) (Or.inl ⟨by rfl, ?_⟩) hHeld ?_ ?_
        rotate_left
        · rintro w' ⟨s0, s1, s2, s3, s4, s5, s6, s7⟩
          go_simp
          with_reducible rfl
        rotate_left
        · simp only [Act.put, List.setIfInBounds_toArray, List.set_cons_zero, List.set_cons_succ, i64_w, i32_w]
          rfl
        refine take_ (i := 5) (N := some 16) (v := ?_) (a' := ?_) #[true, true, true, true, true, true, false, true, false, false, false, false, false] rfl rfl (take_ofW HT_.out HW_.out (by kernel_rfl)) (fun _ _ _ h => h) (Or.inl ⟨by rfl, ?_⟩) hHeld ?_ ?_
        rotate_left
        · rintro w' ⟨s0, s1, s2, s3, s4, s5, s6, s7⟩
          go_simp
          with_reducible rfl
        rotate_left
        · simp only [Act.put, List.setIfInBounds_toArray, List.set_cons_zero, List.set_cons_succ, i64_w, i32_w]
          rfl
        refine pure_ (i := 6) (N := some 17) (v := ?_) (a' := ?_) #[true, true, true, true, true, true, true, true, false, false, false, false, false] rfl rfl (any_of HT_.out (by kernel_rfl)) (fun _ _ _ h => h) (Or.inl ⟨by rfl, ?_⟩) ?_ ?_
        rotate_left
        · intro w'
          go_simp
          with_reducible rfl
        rotate_left
        · simp only [Act.put, List.setIfInBounds_toArray, List.set_cons_zero, List.set_cons_succ, i64_w, i32_w]
          rfl
        refine take_ (i := 8) (N := some 19) (v := ?_) (a' := ?_) #[true, true, true, true, true, true, true, true, true, false, false, false, false] rfl rfl (take_ofW HT_.out HW_.out (by kernel_rfl)) (fun _ _ _ h => h) (Or.inl ⟨by rfl, ?_⟩) hHeld ?_ ?_
        rotate_left
        · rintro w' ⟨s0, s1, s2, s3, s4, s5, s6, s7⟩
          go_simp
          with_reducible rfl
        rotate_left
        · simp only [Act.put, List.setIfInBounds_toArray, List.set_cons_zero, List.set_cons_succ, i64_w, i32_w]
          rfl
        refine pure_ (i := 9) (N := some 20) (v := ?_) (a' := ?_) #[true, true, true, true, true, true, true, true, true, true, false, false, false] rfl rfl (any_of HT_.out (by kernel_rfl)) (fun _ _ _ h => h) (Or.inl ⟨by rfl, ?_⟩) ?_ ?_
        rotate_left
        · intro w'
          go_simp
          with_reducible rfl
        rotate_left
        · simp only [Act.put, List.setIfInBounds_toArray, List.set_cons_zero, List.set_cons_succ, i64_w, i32_w]
          rfl
        refine one_ (i := 10) (N := none) #[true, true, true, true, true, true, true, true, true, true, true, false, false] rfl rfl (one_of HT_.out (by kernel_rfl)) (by decide) (fun K hK => ?_)
        have hs28 : w26.cell? ⟨gb259, 0, none⟩ = some (.string (⟨#[]⟩ : ByteArray)) := (blk_cell BK259.out 0).trans rfl
        have hfs28 := blk_frozen BK259.out 0
        have hns28_0 := NB258_259.out
        have hns28_2 := NB260_259.out
        have hms28_0 := NB259_258.out
        have hms28_2 := NB259_260.out
        have hs29 : w26.cell? ⟨gb259, 1, none⟩ = some (.bool false) := (blk_cell BK259.out 1).trans rfl
        have hfs29 := blk_frozen BK259.out 1
        have hns29_0 := NB258_259.out
        have hns29_2 := NB260_259.out
        have hms29_0 := NB259_258.out
        have hms29_2 := NB259_260.out
        have hs30 : w26.cell? ⟨gb259, 2, none⟩ = some (.int .i64 0) := (blk_cell BK259.out 2).trans rfl
        have hfs30 := blk_frozen BK259.out 2
        have hns30_0 := NB258_259.out
        have hns30_2 := NB260_259.out
        have hms30_0 := NB259_258.out
        have hms30_2 := NB259_260.out
        have hs31 : w26.cell? ⟨gb259, 3, none⟩ = some (.int .i64 0) := (blk_cell BK259.out 3).trans rfl
        have hfs31 := blk_frozen BK259.out 3
        have hns31_0 := NB258_259.out
        have hns31_2 := NB260_259.out
        have hms31_0 := NB259_258.out
        have hms31_2 := NB259_260.out
        have hs32 : w26.cell? ⟨gb259, 4, none⟩ = some (.int .i64 0) := (blk_cell BK259.out 4).trans rfl
        have hfs32 := blk_frozen BK259.out 4
        have hns32_0 := NB258_259.out
        have hns32_2 := NB260_259.out
        have hms32_0 := NB259_258.out
        have hms32_2 := NB259_260.out
        have hs33 : w26.cell? ⟨gb259, 5, none⟩ = some (.string (⟨#[]⟩ : ByteArray)) := (blk_cell BK259.out 5).trans rfl
        have hfs33 := blk_frozen BK259.out 5
        have hns33_0 := NB258_259.out
        have hns33_2 := NB260_259.out
        have hms33_0 := NB259_258.out
        have hms33_2 := NB259_260.out
        refine skip_ (w1 := ?_) (by rfl) rfl ?_ ?_
        rotate_left
        · go_simp
          rfl
        have far0_ := Kd.V_apart (g := gb259) HO0_0.out (by decide) (by first | exact of_eq_true (by with_reducible assumption) | exact of_decide_eq_true (by with_reducible assumption) | omega) (fun _ hk => hk.1.2)
        refine hK.out _ _ ⟨((cell_far (p := ⟨gb259, _, none⟩) NB258_259.out _).trans (((cell_far (p := ⟨gb259, _, none⟩) NB258_259.out _).trans (((cell_far (p := ⟨gb259, _, none⟩) NB258_259.out _).trans (((cell_far (p := ⟨gb259, _, none⟩) NB258_259.out _).trans (((cell_far (p := ⟨gb259, _, none⟩) NB258_259.out _).trans (((cell_far (p := ⟨gb259, _, none⟩) NB258_259.out _).trans (hHeld.1)))))))))))), ((cell_far (p := ⟨gb259, _, none⟩) NB258_259.out _).trans (((cell_far (p := ⟨gb259, _, none⟩) NB258_259.out _).trans (((cell_far (p := ⟨gb259, _, none⟩) NB258_259.out _).trans (((cell_far (p := ⟨gb259, _, none⟩) NB258_259.out _).trans (((cell_far (p := ⟨gb259, _, none⟩) NB258_259.out _).trans (((cell_far (p := ⟨gb259, _, none⟩) NB258_259.out _).trans (hHeld.2.1)))))))))))), ((cell_far (p := ⟨gb259, _, none⟩) (by exact far0_) _).trans (((cell_far (p := ⟨gb259, _, none⟩) (by exact far0_) _).trans (((cell_far (p := ⟨gb259, _, none⟩) (by exact far0_) _).trans (((cell_far (p := ⟨gb259, _, none⟩) (by exact far0_) _).trans (((cell_far (p := ⟨gb259, _, none⟩) (by exact far0_) _).trans (((cell_far (p := ⟨gb259, _, none⟩) (by exact far0_) _).trans (hHeld.2.2.1)))))))))))), ((cell_far (p := ⟨gb259, _, none⟩) (by exact far0_) _).trans (((cell_far (p := ⟨gb259, _, none⟩) (by exact far0_) _).trans (((cell_far (p := ⟨gb259, _, none⟩) (by exact far0_) _).trans (((cell_far (p := ⟨gb259, _, none⟩) (by exact far0_) _).trans (((cell_far (p := ⟨gb259, _, none⟩) (by exact far0_) _).trans (((cell_far (p := ⟨gb259, _, none⟩) (by exact far0_) _).trans (hHeld.2.2.2.1)))))))))))), ((cell_far (p := ⟨gb259, _, none⟩) (by exact far0_) _).trans (((cell_far (p := ⟨gb259, _, none⟩) (by exact far0_) _).trans (((cell_far (p := ⟨gb259, _, none⟩) (by exact far0_) _).trans (((cell_far (p := ⟨gb259, _, none⟩) (by exact far0_) _).trans (((cell_far (p := ⟨gb259, _, none⟩) (by exact far0_) _).trans (((cell_far (p := ⟨gb259, _, none⟩) (by exact far0_) _).trans (hHeld.2.2.2.2.1)))))))))))), ((cell_far (p := ⟨gb259, _, none⟩) (by exact far0_) _).trans (((cell_far (p := ⟨gb259, _, none⟩) (by exact far0_) _).trans (((cell_far (p := ⟨gb259, _, none⟩) (by exact far0_) _).trans (((cell_far (p := ⟨gb259, _, none⟩) (by exact far0_) _).trans (((cell_far (p := ⟨gb259, _, none⟩) (by exact far0_) _).trans (((cell_far (p := ⟨gb259, _, none⟩) (by exact far0_) _).trans (hHeld.2.2.2.2.2.1)))))))))))), ((cell_far (p := ⟨gb259, _, none⟩) (by exact far0_) _).trans (((cell_far (p := ⟨gb259, _, none⟩) (by exact far0_) _).trans (((cell_far (p := ⟨gb259, _, none⟩) (by exact far0_) _).trans (((cell_far (p := ⟨gb259, _, none⟩) (by exact far0_) _).trans (((cell_far (p := ⟨gb259, _, none⟩) (by exact far0_) _).trans (((cell_far (p := ⟨gb259, _, none⟩) (by exact far0_) _).trans (hHeld.2.2.2.2.2.2.1)))))))))))), ((cell_far (p := ⟨gb259, _, none⟩) (by exact far0_) _).trans (((cell_far (p := ⟨gb259, _, none⟩) (by exact far0_) _).trans (((cell_far (p := ⟨gb259, _, none⟩) (by exact far0_) _).trans (((cell_far (p := ⟨gb259, _, none⟩) (by exact far0_) _).trans (((cell_far (p := ⟨gb259, _, none⟩) (by exact far0_) _).trans (((cell_far (p := ⟨gb259, _, none⟩) (by exact far0_) _).trans (hHeld.2.2.2.2.2.2.2))))))))))))⟩ (fun hHeld => ?_)
        clear far0_
        clear hK K
        clear hs28 hfs28 hns28_0 hns28_2 hms28_0 hms28_2 hs29 hfs29 hns29_0 hns29_2 hms29_0 hms29_2 hs30 hfs30 hns30_0 hns30_2 hms30_0 hms30_2 hs31 hfs31 hns31_0 hns31_2 hms31_0 hms31_2 hs32 hfs32 hns32_0 hns32_2 hms32_0 hms32_2 hs33 hfs33 hns33_0 hns33_2 hms33_0 hms33_2
        generalize hq_ : ((((((w26.setCell ⟨gb259, 0, none⟩ (.string ((rd_T33 l0_0 0).f0))).setCell ⟨gb259, 1, none⟩ (.bool ((rd_T33 l0_0 0).f1))).setCell ⟨gb259, 2, none⟩ (.int .i64 ((rd_T33 l0_0 0).f2.f0))).setCell ⟨gb259, 3, none⟩ (.int .i64 ((rd_T33 l0_0 0).f2.f1))).setCell ⟨gb259, 4, none⟩ (.int .i64 ((rd_T33 l0_0 0).f2.f2))).setCell ⟨gb259, 5, none⟩ (.string ((rd_T33 l0_0 0).f2.f3))) = w26_c at hHeld ⊢
        have z_ := @id (((((((w26.setCell ⟨gb259, 0, none⟩ (.string ((rd_T33 l0_0 0).f0))).setCell ⟨gb259, 1, none⟩ (.bool ((rd_T33 l0_0 0).f1))).setCell ⟨gb259, 2, none⟩ (.int .i64 ((rd_T33 l0_0 0).f2.f0))).setCell ⟨gb259, 3, none⟩ (.int .i64 ((rd_T33 l0_0 0).f2.f1))).setCell ⟨gb259, 4, none⟩ (.int .i64 ((rd_T33 l0_0 0).f2.f2))).setCell ⟨gb259, 5, none⟩ (.string ((rd_T33 l0_0 0).f2.f3))).heap[gb259]? = some _) (bS (blk_put (bS (blk_put (bS (blk_put (bS (blk_put (bS (blk_put (bS (blk_put (bS BK259.out) 0 _ rfl)) 1 _ rfl)) 2 _ rfl)) 3 _ rfl)) 4 _ rfl)) 5 _ rfl)); rw [hq_] at z_; replace BK259 := Aside0.mk z_; clear z_
        have z_ := @id (((((((w26.setCell ⟨gb259, 0, none⟩ (.string ((rd_T33 l0_0 0).f0))).setCell ⟨gb259, 1, none⟩ (.bool ((rd_T33 l0_0 0).f1))).setCell ⟨gb259, 2, none⟩ (.int .i64 ((rd_T33 l0_0 0).f2.f0))).setCell ⟨gb259, 3, none⟩ (.int .i64 ((rd_T33 l0_0 0).f2.f1))).setCell ⟨gb259, 4, none⟩ (.int .i64 ((rd_T33 l0_0 0).f2.f2))).setCell ⟨gb259, 5, none⟩ (.string ((rd_T33 l0_0 0).f2.f3))).heap[gb260]? = some _) (bF BK260.out NB260_259.out); rw [hq_] at z_; replace BK260 := Aside0.mk z_; clear z_
        have z_ := @id (Kd.V _ _ ((((((w26.setCell ⟨gb259, 0, none⟩ (.string ((rd_T33 l0_0 0).f0))).setCell ⟨gb259, 1, none⟩ (.bool ((rd_T33 l0_0 0).f1))).setCell ⟨gb259, 2, none⟩ (.int .i64 ((rd_T33 l0_0 0).f2.f0))).setCell ⟨gb259, 3, none⟩ (.int .i64 ((rd_T33 l0_0 0).f2.f1))).setCell ⟨gb259, 4, none⟩ (.int .i64 ((rd_T33 l0_0 0).f2.f2))).setCell ⟨gb259, 5, none⟩ (.string ((rd_T33 l0_0 0).f2.f3))) _ _ _ _) (vF (b := gb259) (Kd.V_mono HO266.out (fun k_ hk => (⟨hk, hk.1.2⟩ : _ ∧ k_ ≠ gb259))) (fun _ hk => hk.2)); rw [hq_] at z_; replace HO266 := Aside0.mk z_; clear z_
        replace HB : Aside0 (Below w.heap.size w w26_c) := ⟨by rw [← hq_]; exact (by repeat (first | (with_reducible first | exact HB.out | apply below_alloc | apply pw_below_drewN | apply below_drew1 | refine below_set ?_ GE258.out | refine below_set ?_ GE259.out | refine below_set ?_ GE260.out) | exact HB.out))⟩
        clear hq_
        refine one_ (i := 11) (N := none) #[true, true, true, true, true, true, true, true, true, true, true, true, false] rfl rfl (one_of HT_.out (by kernel_rfl)) (by decide) (fun K hK => ?_)
        have hs34 : w26_c.cell? ⟨gb260, 0, none⟩ = some (.slice none 0 0) := (blk_cell BK260.out 0).trans rfl
        have hfs34 := blk_frozen BK260.out 0
        have hns34_0 := NB258_260.out
        have hns34_1 := NB259_260.out
        have hms34_0 := NB260_258.out
        have hms34_1 := NB260_259.out
        have hs35 : w26_c.cell? ⟨gb260, 1, none⟩ = some (.bool false) := (blk_cell BK260.out 1).trans rfl
        have hfs35 := blk_frozen BK260.out 1
        have hns35_0 := NB258_260.out
        have hns35_1 := NB259_260.out
        have hms35_0 := NB260_258.out
        have hms35_1 := NB260_259.out
        refine skip_ (w1 := ?_) (by rfl) rfl ?_ ?_
        rotate_left
        · go_simp
          rfl
        have far0_ := Kd.V_apart (g := gb260) HO0_0.out (by decide) (by first | exact of_eq_true (by with_reducible assumption) | exact of_decide_eq_true (by with_reducible assumption) | omega) (fun _ hk => hk.2)
        refine hK.out _ _ ⟨((cell_far (p := ⟨gb260, _, none⟩) NB258_260.out _).trans (((cell_far (p := ⟨gb260, _, none⟩) NB258_260.out _).trans (hHeld.1)))), ((cell_far (p := ⟨gb260, _, none⟩) NB258_260.out _).trans (((cell_far (p := ⟨gb260, _, none⟩) NB258_260.out _).trans (hHeld.2.1)))), ((cell_far (p := ⟨gb260, _, none⟩) (by exact far0_) _).trans (((cell_far (p := ⟨gb260, _, none⟩) (by exact far0_) _).trans (hHeld.2.2.1)))), ((cell_far (p := ⟨gb260, _, none⟩) (by exact far0_) _).trans (((cell_far (p := ⟨gb260, _, none⟩) (by exact far0_) _).trans (hHeld.2.2.2.1)))), ((cell_far (p := ⟨gb260, _, none⟩) (by exact far0_) _).trans (((cell_far (p := ⟨gb260, _, none⟩) (by exact far0_) _).trans (hHeld.2.2.2.2.1)))), ((cell_far (p := ⟨gb260, _, none⟩) (by exact far0_) _).trans (((cell_far (p := ⟨gb260, _, none⟩) (by exact far0_) _).trans (hHeld.2.2.2.2.2.1)))), ((cell_far (p := ⟨gb260, _, none⟩) (by exact far0_) _).trans (((cell_far (p := ⟨gb260, _, none⟩) (by exact far0_) _).trans (hHeld.2.2.2.2.2.2.1)))), ((cell_far (p := ⟨gb260, _, none⟩) (by exact far0_) _).trans (((cell_far (p := ⟨gb260, _, none⟩) (by exact far0_) _).trans (hHeld.2.2.2.2.2.2.2))))⟩ (fun hHeld => ?_)
        clear far0_
        clear hK K
        refine pure_ (i := 12) (N := some 4) (v := ?_) (a' := ?_) #[true, true, true, true, true, true, true, true, true, true, true, true, true] rfl rfl (any_of HT_.out (by kernel_rfl)) (fun _ _ _ h => h) (Or.inl ⟨by rfl, ?_⟩) ?_ ?_
        rotate_left
        · intro w'
          go_simp
          with_reducible rfl
        rotate_left
        · simp only [Act.put, List.setIfInBounds_toArray, List.set_cons_zero, List.set_cons_succ, i64_w, i32_w]
          rfl
        refine done_ (done_of HT_.out (by kernel_rfl)) ?_
        try go_wp2
        refine bodyPost_ret (results_list (rs := [.cell 2 33, .cell 3 24, .tmp 4]) rfl (by simp) (.cell gb259 33 #[.string ((rd_T33 l0_0 0).f0), .bool ((rd_T33 l0_0 0).f1), .int .i64 ((rd_T33 l0_0 0).f2.f0), .int .i64 ((rd_T33 l0_0 0).f2.f1), .int .i64 ((rd_T33 l0_0 0).f2.f2), .string ((rd_T33 l0_0 0).f2.f3)] (0, 0) _ rfl (bF BK259.out NB259_260.out) Try.underlying33 rfl (by kernel_rfl) (.cell gb260 24 #[.slice A27 y262.length c27, .bool a0_1] (0, 0) _ rfl (bS (blk_put (bS (blk_put BK260.out 0 _ rfl)) 1 _ rfl)) Try.underlying24 rfl (by kernel_rfl) (.tmp .nil)))) rfl ?_
        exact ⟨_, by first | rfl | (simp [errW_none, errW_some] <;> rfl) | (simp [*, errW_none, errW_some] <;> rfl), by (with_reducible repeat (first | apply Kd.V_alloc | apply Kd.V_drewN | apply Kd.V_drew)); exact Kd.V_mono (vF (b := gb260) (Kd.V_mono HO266.out (fun k_ hk => (⟨hk, hk.1.2⟩ : _ ∧ k_ ≠ gb260))) (fun _ hk => hk.2)) (fun _ hk => hk.1.1.1.1.1), by repeat (first | (with_reducible first | exact HB.out | apply below_alloc | apply pw_below_drewN | apply below_drew1 | refine below_set ?_ GE258.out | refine below_set ?_ GE259.out | refine below_set ?_ GE260.out) | exact HB.out)⟩
      · rw [if_neg c19] at H
        exact absurd H (by simp)
    · rw [if_neg c18] at H
      exact absurd H (by simp)

/-! ### rollcallref17_Find: function 18 -/
def rollcallref17_Find.f (k : Nat) (l0_0 : List (S33)) (a0_1 : Bool) (a1 : ByteArray) : Option (ByteArray × Bool × Int × Int × Int × ByteArray × Bool) := (rollcallref17_place.f k l0_0 a0_1 a1).bind fun t269 => (if t269 < 0 then (some ((⟨#[]⟩ : ByteArray), false, 0, 0, 0, (⟨#[]⟩ : ByteArray), false)) else (if 0 ≤ t269 then (if t269 < (l0_0.length : Int) then (some ((rd_T33 l0_0 t269).f0, (rd_T33 l0_0 t269).f1, (rd_T33 l0_0 t269).f2.f0, (rd_T33 l0_0 t269).f2.f1, (rd_T33 l0_0 t269).f2.f2, (rd_T33 l0_0 t269).f2.f3, true)) else (none)) else (none)))
theorem rollcallref17_Find.mono : ∀ a0 a1 a2 k, LeO (rollcallref17_Find.f k a0 a1 a2) (rollcallref17_Find.f (k + 1) a0 a1 a2) := by
  intro a0 a1 a2 k
  unfold rollcallref17_Find.f
  repeat' first
      | (with_reducible exact rollcallref17_place.mono _ _ _ _)
      | (with_reducible exact LeO.refl _)
      | (with_reducible exact LeO.none _)
      | (with_reducible refine LeO.ite ?_ ?_)
      | (with_reducible refine LeO.bind ?_ (fun _ => ?_))
      | exact rollcallref17_place.mono _ _ _ _
      | exact LeO.none _
      | refine LeO.ite ?_ ?_
      | refine LeO.bind ?_ (fun _ => ?_)
set_option maxHeartbeats 8000000 in
set_option maxRecDepth 100000 in
theorem rollcallref17_Find.calls (k : Nat) (A0_0 : Option Addr) (c0_0 : Nat) (l0_0 : List (S33)) (a0_1 : Bool) (a1 : ByteArray) (r1 : ByteArray) (r2 : Bool) (r3 : Int) (r4 : Int) (r5 : Int) (r6 : ByteArray) (r7 : Bool) (w : World) (hr0_0 : Kd.C k33 w A0_0 l0_0.length l0_0) (hc0_0 : l0_0.length ≤ c0_0) (h : rollcallref17_Find.f k l0_0 a0_1 a1 = some (r1, r2, r3, r4, r5, r6, r7)) :
    Calls Try.prog 18 #[.agg #[.slice A0_0 l0_0.length c0_0, .bool a0_1], .string a1] w fun e w' => e = .returned (.tuple #[.agg #[.string r1, .bool r2, .int .i64 r3, .int .i64 r4, .int .i64 r5, .string r6], .bool r7]) ∧ Below w.heap.size w w' := by
  have hu24 := Try.underlying24
  have hu33 := Try.underlying33
  have HR0_0 := Aside0.mk hr0_0
  have HC0_0 := Aside0.mk hc0_0
  clear hr0_0 hc0_0
  have HB := Aside0.mk (Below.refl w.heap.size w)
  have H : ((rollcallref17_place.f k l0_0 a0_1 a1).bind fun t269 => (if t269 < 0 then (some ((⟨#[]⟩ : ByteArray), false, 0, 0, 0, (⟨#[]⟩ : ByteArray), false)) else (if 0 ≤ t269 then (if t269 < (l0_0.length : Int) then (some ((rd_T33 l0_0 t269).f0, (rd_T33 l0_0 t269).f1, (rd_T33 l0_0 t269).f2.f0, (rd_T33 l0_0 t269).f2.f1, (rd_T33 l0_0 t269).f2.f2, (rd_T33 l0_0 t269).f2.f3, true)) else (none)) else (none)))) = some (r1, r2, r3, r4, r5, r6, r7) := h
  clear h
  replace H := Option.bind_eq_some_iff.mp H
  obtain ⟨t269, A30, H⟩ := H
  replace H : (if t269 < 0 then (some ((⟨#[]⟩ : ByteArray), false, 0, 0, 0, (⟨#[]⟩ : ByteArray), false)) else (if 0 ≤ t269 then (if t269 < (l0_0.length : Int) then (some ((rd_T33 l0_0 t269).f0, (rd_T33 l0_0 t269).f1, (rd_T33 l0_0 t269).f2.f0, (rd_T33 l0_0 t269).f2.f1, (rd_T33 l0_0 t269).f2.f2, (rd_T33 l0_0 t269).f2.f3, true)) else (none)) else (none))) = some (r1, r2, r3, r4, r5, r6, r7) := H
  have A3 := Aside0.mk A30
  clear A30
  by_cases c4 : t269 < 0
  · rw [if_pos c4] at H
    have c4b0 : decide (t269 < 0) = true := decide_eq_true c4
    clear c4
    simp only [Option.some.injEq, Prod.mk.injEq] at H
    obtain ⟨rfl, rfl, rfl, rfl, rfl, rfl, rfl⟩ := H
    go_enter Try.func18, Try.ntmps18
    go_wp2_with (first | ((with_reducible refine gate_dst (N := 2) rfl ?_); refine box_event ?hg (N := 2) ?hd (cs := #[.slice A0_0 l0_0.length c0_0, .bool a0_1]) (t := 24) ?hr ?_; (case hd => rfl); (case hg => rfl); (case hr => first | (go_simp; done) | (go_simp; rfl)); intro gb267 hg w5 hbox hb; have BK267 := Aside0.mk (hbox); have GW267 := Aside0.mk ((by rw [hg]; exact (below_size (hS HB.out)) : w.heap.size ≤ gb267)); have GE267 := Aside0.mk ((by rw [hg]; exact (below_size (hS HB.out)) : w.heap.size ≤ gb267)); replace HB := Aside0.mk (below_step (hS HB.out) hb); clear hb hbox hg) | ((with_reducible refine gate_dst (N := 4) rfl ?_); refine box_event ?hg (N := 4) ?hd (cs := #[.string (⟨#[]⟩ : ByteArray), .bool false, .int .i64 0, .int .i64 0, .int .i64 0, .string (⟨#[]⟩ : ByteArray)]) (t := 33) ?hr ?_; (case hd => rfl); (case hg => rfl); (case hr => first | (go_simp; done) | (go_simp; rfl)); intro gb268 hg w6 hbox hb; have BK268 := Aside0.mk (hbox); have GW268 := Aside0.mk ((by rw [hg]; exact (below_size (hS HB.out)) : w.heap.size ≤ gb268)); have GE268 := Aside0.mk ((by rw [hg]; exact (below_size (hS HB.out)) : w.heap.size ≤ gb268)); replace HB := Aside0.mk (below_step (hS HB.out) hb); have NB267_268 := Aside0.mk ((by rw [hg]; exact Nat.ne_of_lt (blk_lt (bS BK267.out)) : gb267 ≠ gb268)); have NB268_267 := Aside0.mk ((by rw [hg]; exact Nat.ne_of_gt (blk_lt (bS BK267.out)) : gb268 ≠ gb267)); replace BK267 := Aside0.mk (blk_below (bS BK267.out) hb); clear hb hbox hg; have hnb7 := NB267_268.out; have hnc7 := NB268_267.out; have hcz8_0 : w6.cell? ⟨gb267, 0, none⟩ = some (.slice A0_0 l0_0.length c0_0) := (blk_cell BK267.out 0).trans rfl; have hcz8_1 : w6.cell? ⟨gb267, 1, none⟩ = some (.bool a0_1) := (blk_cell BK267.out 1).trans rfl; have hfz8_0 := blk_frozen BK267.out 0; have hfz8_1 := blk_frozen BK267.out 1) | ((with_reducible refine gate_callee (f := 36) rfl ?_); refine goesL_ (some 9) rfl rfl Try.func36 (by kernel_rfl) rfl #[.agg #[.slice A0_0 l0_0.length c0_0, .bool a0_1], .string a1] rfl (by (try simp only [List.map_toArray, List.map_cons, List.map_nil]); first | done | rfl | (simp only [List.length_drop, List.length_take]; rfl)) ?_; (with_reducible refine (rollcallref17_place.calls k _ _ l0_0 a0_1 a1 t269 _ ?side1 ?side2 A3.out).mono ?_); (case side1 => repeat (first | exact (Kd.C_below HR0_0.out HB.out) | (with_reducible refine Kd.C_alloc ?_ _) | (with_reducible refine Kd.C_drewN ?_ _) | (with_reducible refine Kd.C_drew ?_))); (case side2 => exact HC0_0.out); rintro e w9 ⟨rfl, hb⟩; refine ⟨_, rfl, ?_⟩; replace BK267 := Aside0.mk (blk_below (bS BK267.out) hb); replace BK268 := Aside0.mk (blk_below (bS BK268.out) hb); replace HB := Aside0.mk (below_step (hS HB.out) hb); (try clear hb); (try clear hb2); (try clear hk); (try clear hi); have hcz10_0 : w9.cell? ⟨gb268, 0, none⟩ = some (.string (⟨#[]⟩ : ByteArray)) := (blk_cell BK268.out 0).trans rfl; have hcz10_1 : w9.cell? ⟨gb268, 1, none⟩ = some (.bool false) := (blk_cell BK268.out 1).trans rfl; have hcz10_2 : w9.cell? ⟨gb268, 2, none⟩ = some (.int .i64 0) := (blk_cell BK268.out 2).trans rfl; have hcz10_3 : w9.cell? ⟨gb268, 3, none⟩ = some (.int .i64 0) := (blk_cell BK268.out 3).trans rfl; have hcz10_4 : w9.cell? ⟨gb268, 4, none⟩ = some (.int .i64 0) := (blk_cell BK268.out 4).trans rfl; have hcz10_5 : w9.cell? ⟨gb268, 5, none⟩ = some (.string (⟨#[]⟩ : ByteArray)) := (blk_cell BK268.out 5).trans rfl; have hfz10_0 := blk_frozen BK268.out 0; have hfz10_1 := blk_frozen BK268.out 1; have hfz10_2 := blk_frozen BK268.out 2; have hfz10_3 := blk_frozen BK268.out 3; have hfz10_4 := blk_frozen BK268.out 4; have hfz10_5 := blk_frozen BK268.out 5))
    refine bodyPost_ret (results_ct rfl _ _ gb268 33 #[.string (⟨#[]⟩ : ByteArray), .bool false, .int .i64 0, .int .i64 0, .int .i64 0, .string (⟨#[]⟩ : ByteArray)] (0, 0) _ rfl (bS (blk_put (bS (blk_put (bS (blk_put (bS (blk_put (bS (blk_put (bS (blk_put (bS BK268.out) 0 _ rfl)) 1 _ rfl)) 2 _ rfl)) 3 _ rfl)) 4 _ rfl)) 5 _ rfl)) Try.underlying33 rfl (by kernel_rfl)) rfl ?_
    exact ⟨by first | rfl | (simp [errW_none, errW_some] <;> rfl) | (simp [*, errW_none, errW_some] <;> rfl), by repeat (first | (with_reducible first | exact HB.out | apply below_alloc | apply pw_below_drewN | apply below_drew1 | refine below_set ?_ GE267.out | refine below_set ?_ GE268.out) | exact HB.out)⟩
  · rw [if_neg c4] at H
    have c4b0 : decide (t269 < 0) = false := decide_eq_false c4
    clear c4
    by_cases c11 : 0 ≤ t269
    · rw [if_pos c11] at H
      have c11b0 : decide (0 ≤ t269) = true := decide_eq_true c11
      clear c11
      by_cases c12 : t269 < (l0_0.length : Int)
      · rw [if_pos c12] at H
        have c12b0 : decide (t269 < (l0_0.length : Int)) = true := decide_eq_true c12
        clear c12
        simp only [Option.some.injEq, Prod.mk.injEq] at H
        obtain ⟨rfl, rfl, rfl, rfl, rfl, rfl, rfl⟩ := H
        go_enter Try.func18, Try.ntmps18
        go_wp2_with (first | ((with_reducible refine gate_dst (N := 2) rfl ?_); refine box_event ?hg (N := 2) ?hd (cs := #[.slice A0_0 l0_0.length c0_0, .bool a0_1]) (t := 24) ?hr ?_; (case hd => rfl); (case hg => rfl); (case hr => first | (go_simp; done) | (go_simp; rfl)); intro gb267 hg w13 hbox hb; have BK267 := Aside0.mk (hbox); have GW267 := Aside0.mk ((by rw [hg]; exact (below_size (hS HB.out)) : w.heap.size ≤ gb267)); have GE267 := Aside0.mk ((by rw [hg]; exact (below_size (hS HB.out)) : w.heap.size ≤ gb267)); replace HB := Aside0.mk (below_step (hS HB.out) hb); clear hb hbox hg) | ((with_reducible refine gate_dst (N := 4) rfl ?_); refine box_event ?hg (N := 4) ?hd (cs := #[.string (⟨#[]⟩ : ByteArray), .bool false, .int .i64 0, .int .i64 0, .int .i64 0, .string (⟨#[]⟩ : ByteArray)]) (t := 33) ?hr ?_; (case hd => rfl); (case hg => rfl); (case hr => first | (go_simp; done) | (go_simp; rfl)); intro gb268 hg w14 hbox hb; have BK268 := Aside0.mk (hbox); have GW268 := Aside0.mk ((by rw [hg]; exact (below_size (hS HB.out)) : w.heap.size ≤ gb268)); have GE268 := Aside0.mk ((by rw [hg]; exact (below_size (hS HB.out)) : w.heap.size ≤ gb268)); replace HB := Aside0.mk (below_step (hS HB.out) hb); have NB267_268 := Aside0.mk ((by rw [hg]; exact Nat.ne_of_lt (blk_lt (bS BK267.out)) : gb267 ≠ gb268)); have NB268_267 := Aside0.mk ((by rw [hg]; exact Nat.ne_of_gt (blk_lt (bS BK267.out)) : gb268 ≠ gb267)); replace BK267 := Aside0.mk (blk_below (bS BK267.out) hb); clear hb hbox hg; have hnb15 := NB267_268.out; have hnc15 := NB268_267.out; have hcz16_0 : w14.cell? ⟨gb267, 0, none⟩ = some (.slice A0_0 l0_0.length c0_0) := (blk_cell BK267.out 0).trans rfl; have hcz16_1 : w14.cell? ⟨gb267, 1, none⟩ = some (.bool a0_1) := (blk_cell BK267.out 1).trans rfl; have hfz16_0 := blk_frozen BK267.out 0; have hfz16_1 := blk_frozen BK267.out 1) | ((with_reducible refine gate_callee (f := 36) rfl ?_); refine goesL_ (some 9) rfl rfl Try.func36 (by kernel_rfl) rfl #[.agg #[.slice A0_0 l0_0.length c0_0, .bool a0_1], .string a1] rfl (by (try simp only [List.map_toArray, List.map_cons, List.map_nil]); first | done | rfl | (simp only [List.length_drop, List.length_take]; rfl)) ?_; (with_reducible refine (rollcallref17_place.calls k _ _ l0_0 a0_1 a1 t269 _ ?side1 ?side2 A3.out).mono ?_); (case side1 => repeat (first | exact (Kd.C_below HR0_0.out HB.out) | (with_reducible refine Kd.C_alloc ?_ _) | (with_reducible refine Kd.C_drewN ?_ _) | (with_reducible refine Kd.C_drew ?_))); (case side2 => exact HC0_0.out); rintro e w17 ⟨rfl, hb⟩; refine ⟨_, rfl, ?_⟩; replace BK267 := Aside0.mk (blk_below (bS BK267.out) hb); replace BK268 := Aside0.mk (blk_below (bS BK268.out) hb); replace HB := Aside0.mk (below_step (hS HB.out) hb); (try clear hb); (try clear hb2); (try clear hk); (try clear hi); have hcz18_0 : w17.cell? ⟨gb267, 0, none⟩ = some (.slice A0_0 l0_0.length c0_0) := (blk_cell BK267.out 0).trans rfl; have hcz18_1 : w17.cell? ⟨gb267, 1, none⟩ = some (.bool a0_1) := (blk_cell BK267.out 1).trans rfl; have hfz18_0 := blk_frozen BK267.out 0; have hfz18_1 := blk_frozen BK267.out 1; have p270 : 0 ≤ (t269 : Int) := of_decide_eq_true (by first | (with_reducible assumption) | assumption); have q270 : t269 < (l0_0.length : Int) := of_decide_eq_true (by first | (with_reducible assumption) | assumption); obtain ⟨ad270, e270, hx270_0, hx270_1, hx270_2, hx270_3, hx270_4, hx270_5⟩ := at_T33 HR0_0.out t269 p270 q270; cases e270; replace hx270_0 := (HB.out.cell (World.block_lt_of_cell? w _ hx270_0)).trans hx270_0; replace hx270_1 := (HB.out.cell (World.block_lt_of_cell? w _ hx270_1)).trans hx270_1; replace hx270_2 := (HB.out.cell (World.block_lt_of_cell? w _ hx270_2)).trans hx270_2; replace hx270_3 := (HB.out.cell (World.block_lt_of_cell? w _ hx270_3)).trans hx270_3; replace hx270_4 := (HB.out.cell (World.block_lt_of_cell? w _ hx270_4)).trans hx270_4; replace hx270_5 := (HB.out.cell (World.block_lt_of_cell? w _ hx270_5)).trans hx270_5; replace p270 := eq_true p270; replace q270 := eq_true q270; have hcz19_0 : w17.cell? ⟨gb268, 0, none⟩ = some (.string (⟨#[]⟩ : ByteArray)) := (blk_cell BK268.out 0).trans rfl; have hcz19_1 : w17.cell? ⟨gb268, 1, none⟩ = some (.bool false) := (blk_cell BK268.out 1).trans rfl; have hcz19_2 : w17.cell? ⟨gb268, 2, none⟩ = some (.int .i64 0) := (blk_cell BK268.out 2).trans rfl; have hcz19_3 : w17.cell? ⟨gb268, 3, none⟩ = some (.int .i64 0) := (blk_cell BK268.out 3).trans rfl; have hcz19_4 : w17.cell? ⟨gb268, 4, none⟩ = some (.int .i64 0) := (blk_cell BK268.out 4).trans rfl; have hcz19_5 : w17.cell? ⟨gb268, 5, none⟩ = some (.string (⟨#[]⟩ : ByteArray)) := (blk_cell BK268.out 5).trans rfl; have hfz19_0 := blk_frozen BK268.out 0; have hfz19_1 := blk_frozen BK268.out 1; have hfz19_2 := blk_frozen BK268.out 2; have hfz19_3 := blk_frozen BK268.out 3; have hfz19_4 := blk_frozen BK268.out 4; have hfz19_5 := blk_frozen BK268.out 5))
        refine bodyPost_ret (results_ct rfl _ _ gb268 33 #[.string ((rd_T33 l0_0 t269).f0), .bool ((rd_T33 l0_0 t269).f1), .int .i64 ((rd_T33 l0_0 t269).f2.f0), .int .i64 ((rd_T33 l0_0 t269).f2.f1), .int .i64 ((rd_T33 l0_0 t269).f2.f2), .string ((rd_T33 l0_0 t269).f2.f3)] (0, 0) _ rfl (bS (blk_put (bS (blk_put (bS (blk_put (bS (blk_put (bS (blk_put (bS (blk_put (bS BK268.out) 0 _ rfl)) 1 _ rfl)) 2 _ rfl)) 3 _ rfl)) 4 _ rfl)) 5 _ rfl)) Try.underlying33 rfl (by kernel_rfl)) rfl ?_
        exact ⟨by first | rfl | (simp [errW_none, errW_some] <;> rfl) | (simp [*, errW_none, errW_some] <;> rfl), by repeat (first | (with_reducible first | exact HB.out | apply below_alloc | apply pw_below_drewN | apply below_drew1 | refine below_set ?_ GE267.out | refine below_set ?_ GE268.out) | exact HB.out)⟩
      · rw [if_neg c12] at H
        exact absurd H (by simp)
    · rw [if_neg c11] at H
      exact absurd H (by simp)

/-! ### rollcallref17_Empty: function 21 -/
def rollcallref17_Empty.f (l0_0 : List (S33)) (a0_1 : Bool) : Option (Bool) := if (l0_0.length : Int) = 0 then (some (!a0_1)) else (some false)
set_option maxHeartbeats 8000000 in
set_option maxRecDepth 100000 in
theorem rollcallref17_Empty.calls (A0_0 : Option Addr) (c0_0 : Nat) (l0_0 : List (S33)) (a0_1 : Bool) (r : Bool) (w : World) (hr0_0 : Kd.C k33 w A0_0 l0_0.length l0_0) (hc0_0 : l0_0.length ≤ c0_0) (h : rollcallref17_Empty.f l0_0 a0_1 = some r) :
    Calls Try.prog 21 #[.agg #[.slice A0_0 l0_0.length c0_0, .bool a0_1]] w fun e w' => e = .returned (.bool r) ∧ Below w.heap.size w w' := by
  have hu24 := Try.underlying24
  have HR0_0 := Aside0.mk hr0_0
  have HC0_0 := Aside0.mk hc0_0
  clear hr0_0 hc0_0
  have HB := Aside0.mk (Below.refl w.heap.size w)
  have H : (if (l0_0.length : Int) = 0 then (some (!a0_1)) else (some false)) = some r := h
  clear h
  by_cases c2 : (l0_0.length : Int) = 0
  · rw [if_pos c2] at H
    have c2b0 : ((l0_0.length : Int) == 0) = true := beq_iff_eq.mpr c2
    have c2b1 : ((l0_0.length : Int) != 0) = false := bne_eq_false_iff_eq.mpr c2
    clear c2
    obtain rfl := Option.some.inj H
    go_enter Try.func21, Try.ntmps21
    go_wp2_with (first | ((with_reducible refine gate_dst (N := 1) rfl ?_); refine box_event ?hg (N := 1) ?hd (cs := #[.slice A0_0 l0_0.length c0_0, .bool a0_1]) (t := 24) ?hr ?_; (case hd => rfl); (case hg => rfl); (case hr => first | (go_simp; done) | (go_simp; rfl)); intro gb271 hg w3 hbox hb; have BK271 := Aside0.mk (hbox); have GW271 := Aside0.mk ((by rw [hg]; exact (below_size (hS HB.out)) : w.heap.size ≤ gb271)); have GE271 := Aside0.mk ((by rw [hg]; exact (below_size (hS HB.out)) : w.heap.size ≤ gb271)); replace HB := Aside0.mk (below_step (hS HB.out) hb); clear hb hbox hg; have hcz4_0 : w3.cell? ⟨gb271, 0, none⟩ = some (.slice A0_0 l0_0.length c0_0) := (blk_cell BK271.out 0).trans rfl; have hcz4_1 : w3.cell? ⟨gb271, 1, none⟩ = some (.bool a0_1) := (blk_cell BK271.out 1).trans rfl; have hfz4_0 := blk_frozen BK271.out 0; have hfz4_1 := blk_frozen BK271.out 1))
    go_ret
    exact ⟨by first | rfl | (simp [errW_none, errW_some] <;> rfl) | (simp [*, errW_none, errW_some] <;> rfl), by repeat (first | (with_reducible first | exact HB.out | apply below_alloc | apply pw_below_drewN | apply below_drew1 | refine below_set ?_ GE271.out) | exact HB.out)⟩
  · rw [if_neg c2] at H
    have c2b0 : ((l0_0.length : Int) == 0) = false := beq_eq_false_iff_ne.mpr c2
    have c2b1 : ((l0_0.length : Int) != 0) = true := bne_iff_ne.mpr c2
    have c2b2 : ¬ (l0_0 = []) := fun h_ => c2 (by rw [h_]; rfl)
    obtain rfl := Option.some.inj H
    go_enter Try.func21, Try.ntmps21
    go_wp2_with (first | ((with_reducible refine gate_dst (N := 1) rfl ?_); refine box_event ?hg (N := 1) ?hd (cs := #[.slice A0_0 l0_0.length c0_0, .bool a0_1]) (t := 24) ?hr ?_; (case hd => rfl); (case hg => rfl); (case hr => first | (go_simp; done) | (go_simp; rfl)); intro gb271 hg w5 hbox hb; have BK271 := Aside0.mk (hbox); have GW271 := Aside0.mk ((by rw [hg]; exact (below_size (hS HB.out)) : w.heap.size ≤ gb271)); have GE271 := Aside0.mk ((by rw [hg]; exact (below_size (hS HB.out)) : w.heap.size ≤ gb271)); replace HB := Aside0.mk (below_step (hS HB.out) hb); clear hb hbox hg; have hcz6_0 : w5.cell? ⟨gb271, 0, none⟩ = some (.slice A0_0 l0_0.length c0_0) := (blk_cell BK271.out 0).trans rfl; have hcz6_1 : w5.cell? ⟨gb271, 1, none⟩ = some (.bool a0_1) := (blk_cell BK271.out 1).trans rfl; have hfz6_0 := blk_frozen BK271.out 0; have hfz6_1 := blk_frozen BK271.out 1))
    go_ret
    exact ⟨by first | rfl | (simp [errW_none, errW_some] <;> rfl) | (simp [*, errW_none, errW_some] <;> rfl), by repeat (first | (with_reducible first | exact HB.out | apply below_alloc | apply pw_below_drewN | apply below_drew1 | refine below_set ?_ GE271.out) | exact HB.out)⟩

/-! ### rollcallref05_Same: function 22 -/
def rollcallref05_Same.l0 : Nat → List (S52) → List (S52) → Int → Option (Bool)
  | 0, _, _, _ => none
  | k + 1, x0, x1, x5 => if x5 < (x0.length : Int) then (if 0 ≤ x5 then (if x5 < (x1.length : Int) then (if (!((((rd_T52 x0 x5).f0).toList) == (((rd_T52 x1 x5).f0).toList)) || ((!(((rd_T52 x0 x5).f1.f0) == ((rd_T52 x1 x5).f1.f0)) || (!(((rd_T52 x0 x5).f1.f1) == ((rd_T52 x1 x5).f1.f1)) || (!(((rd_T52 x0 x5).f1.f2) == ((rd_T52 x1 x5).f1.f2)) || (!((((rd_T52 x0 x5).f1.f3).toList) == (((rd_T52 x1 x5).f1.f3).toList)))))))) = true then (some false) else (rollcallref05_Same.l0 k x0 x1 (wrap64 (x5 + 1)))) else (none)) else (none)) else (some true)
def rollcallref05_Same.f (k : Nat) (l0 : List (S52)) (l1 : List (S52)) : Option (Bool) := if (l0.length : Int) = (l1.length : Int) then (rollcallref05_Same.l0 k l0 l1 0) else (some false)
theorem rollcallref05_Same.mono_l : ∀ k, (∀ y0 y1 y2, LeO (rollcallref05_Same.l0 k y0 y1 y2) (rollcallref05_Same.l0 (k + 1) y0 y1 y2))
  | 0 => fun _ _ _ r h => by simp [rollcallref05_Same.l0] at h
  | k + 1 => by
    have ih0 := rollcallref05_Same.mono_l k
    · intro y0 y1 y2
      unfold rollcallref05_Same.l0
      repeat' first
      | (with_reducible exact ih0 _ _ _)
      | (with_reducible exact LeO.refl _)
      | (with_reducible exact LeO.none _)
      | (with_reducible refine LeO.ite ?_ ?_)
      | (with_reducible refine LeO.bind ?_ (fun _ => ?_))
      | exact ih0 _ _ _
      | exact LeO.none _
      | refine LeO.ite ?_ ?_
      | refine LeO.bind ?_ (fun _ => ?_)
theorem rollcallref05_Same.mono : ∀ a0 a1 k, LeO (rollcallref05_Same.f k a0 a1) (rollcallref05_Same.f (k + 1) a0 a1) := by
  intro a0 a1 k
  have ih0 := rollcallref05_Same.mono_l k
  unfold rollcallref05_Same.f
  repeat' first
      | (with_reducible exact ih0 _ _ _)
      | (with_reducible exact LeO.refl _)
      | (with_reducible exact LeO.none _)
      | (with_reducible refine LeO.ite ?_ ?_)
      | (with_reducible refine LeO.bind ?_ (fun _ => ?_))
      | exact ih0 _ _ _
      | exact LeO.none _
      | refine LeO.ite ?_ ?_
      | refine LeO.bind ?_ (fun _ => ?_)
set_option maxHeartbeats 8000000 in
set_option maxRecDepth 100000 in
theorem rollcallref05_Same.calls (k : Nat) (A0 : Option Addr) (c0 : Nat) (l0 : List (S52)) (A1 : Option Addr) (c1 : Nat) (l1 : List (S52)) (r : Bool) (w : World) (hr0 : Kd.C k52 w A0 l0.length l0) (hc0 : l0.length ≤ c0) (hr1 : Kd.C k52 w A1 l1.length l1) (hc1 : l1.length ≤ c1) (h : rollcallref05_Same.f k l0 l1 = some r) :
    Calls Try.prog 22 #[.slice A0 l0.length c0, .slice A1 l1.length c1] w fun e w' => e = .returned (.bool r) ∧ Drawn0 w w' := by
  have hu52 := Try.underlying52
  have HR0 := Aside0.mk hr0
  have HC0 := Aside0.mk hc0
  clear hr0 hc0
  have HR1 := Aside0.mk hr1
  have HC1 := Aside0.mk hc1
  clear hr1 hc1
  have H : (if (l0.length : Int) = (l1.length : Int) then (rollcallref05_Same.l0 k l0 l1 0) else (some false)) = some r := h
  clear h
  by_cases c3 : (l0.length : Int) = (l1.length : Int)
  · rw [if_pos c3] at H
    have c3b0 : ((l0.length : Int) == (l1.length : Int)) = true := beq_iff_eq.mpr c3
    have c3b1 : ((l0.length : Int) != (l1.length : Int)) = false := bne_eq_false_iff_eq.mpr c3
    have c3b2 : (l0.length == l1.length) = true := by first | simpa using c3 | (simp at c3 ⊢; omega)
    clear c3
    have H' := Aside0.mk H
    clear H
    go_enter Try.func22, Try.ntmps22
    go_wp2
    repeat (go_quiet (fail); try go_wp2)
    go_loopg [5] k (fun kq v5 w' => ∃ (x5_1 : Int), v5 = .int .i64 x5_1 ∧ Aside0 (rollcallref05_Same.l0 kq l0 l1 x5_1 = some r) ∧ Aside0 (kq ≤ k) ∧ Drawn0 w w')
    case atStart => exact ⟨(0), (by first | rfl | (simp; done) | (simp [*]; done)), H', ⟨Nat.le_refl _⟩, by repeat (first | exact Drawn0.refl _ | apply Drawn0.step)⟩
    case round =>
      clear H'
      try clear c1
      try clear c2
      try clear p2
      try clear c3
      try clear c3b0
      try clear c3b1
      try clear c3b2
      obtain ⟨x5_1, rfl, HA, HK1, ⟨m1, rfl⟩⟩ := hrel
      cases gk with
      | zero => exact absurd HA.out (by simp [rollcallref05_Same.l0])
      | succ k1 =>
        have H := HA.out
        clear HA
        simp only [rollcallref05_Same.l0] at H
        by_cases c4 : x5_1 < (l0.length : Int)
        · rw [if_pos c4] at H
          have c4b0 : decide (x5_1 < (l0.length : Int)) = true := decide_eq_true c4
          clear c4
          by_cases c5 : 0 ≤ x5_1
          · rw [if_pos c5] at H
            have c5b0 : decide (0 ≤ x5_1) = true := decide_eq_true c5
            clear c5
            by_cases c6 : x5_1 < (l1.length : Int)
            · rw [if_pos c6] at H
              have c6b0 : decide (x5_1 < (l1.length : Int)) = true := decide_eq_true c6
              clear c6
              by_cases c7 : (!((((rd_T52 l0 x5_1).f0).toList) == (((rd_T52 l1 x5_1).f0).toList)) || ((!(((rd_T52 l0 x5_1).f1.f0) == ((rd_T52 l1 x5_1).f1.f0)) || (!(((rd_T52 l0 x5_1).f1.f1) == ((rd_T52 l1 x5_1).f1.f1)) || (!(((rd_T52 l0 x5_1).f1.f2) == ((rd_T52 l1 x5_1).f1.f2)) || (!((((rd_T52 l0 x5_1).f1.f3).toList) == (((rd_T52 l1 x5_1).f1.f3).toList)))))))) = true
              · rw [if_pos c7] at H
                have c7b0 : (!((((rd_T52 l0 x5_1).f0).toList) == (((rd_T52 l1 x5_1).f0).toList)) || ((!(((rd_T52 l0 x5_1).f1.f0) == ((rd_T52 l1 x5_1).f1.f0)) || (!(((rd_T52 l0 x5_1).f1.f1) == ((rd_T52 l1 x5_1).f1.f1)) || (!(((rd_T52 l0 x5_1).f1.f2) == ((rd_T52 l1 x5_1).f1.f2)) || (!((((rd_T52 l0 x5_1).f1.f3).toList) == (((rd_T52 l1 x5_1).f1.f3).toList)))))))) = true := c7
                clear c7
                obtain rfl := Option.some.inj H
                have p272 : 0 ≤ (x5_1 : Int) := of_decide_eq_true (by first | (with_reducible assumption) | assumption)
                have q272 : x5_1 < (l0.length : Int) := of_decide_eq_true (by first | (with_reducible assumption) | assumption)
                obtain ⟨ad272, e272, hx272_0, hx272_1, hx272_2, hx272_3, hx272_4⟩ := at_T52 HR0.out x5_1 p272 q272
                cases e272
                replace p272 := eq_true p272
                replace q272 := eq_true q272
                have p273 : 0 ≤ (x5_1 : Int) := of_decide_eq_true (by first | (with_reducible assumption) | assumption)
                have q273 : x5_1 < (l1.length : Int) := of_decide_eq_true (by first | (with_reducible assumption) | assumption)
                obtain ⟨ad273, e273, hx273_0, hx273_1, hx273_2, hx273_3, hx273_4⟩ := at_T52 HR1.out x5_1 p273 q273
                cases e273
                replace p273 := eq_true p273
                replace q273 := eq_true q273
                go_wp2
                repeat (go_quiet (fail); try go_wp2)
                go_ret
                exact ⟨by first | rfl | (simp; done) | (simp [*]; done), by repeat (first | exact Drawn0.refl _ | apply Drawn0.step)⟩
              · rw [if_neg c7] at H
                have c7b0 : (!((((rd_T52 l0 x5_1).f0).toList) == (((rd_T52 l1 x5_1).f0).toList)) || ((!(((rd_T52 l0 x5_1).f1.f0) == ((rd_T52 l1 x5_1).f1.f0)) || (!(((rd_T52 l0 x5_1).f1.f1) == ((rd_T52 l1 x5_1).f1.f1)) || (!(((rd_T52 l0 x5_1).f1.f2) == ((rd_T52 l1 x5_1).f1.f2)) || (!((((rd_T52 l0 x5_1).f1.f3).toList) == (((rd_T52 l1 x5_1).f1.f3).toList)))))))) = false := by simpa using c7
                clear c7
                have H' := Aside0.mk H
                clear H
                have p272 : 0 ≤ (x5_1 : Int) := of_decide_eq_true (by first | (with_reducible assumption) | assumption)
                have q272 : x5_1 < (l0.length : Int) := of_decide_eq_true (by first | (with_reducible assumption) | assumption)
                obtain ⟨ad272, e272, hx272_0, hx272_1, hx272_2, hx272_3, hx272_4⟩ := at_T52 HR0.out x5_1 p272 q272
                cases e272
                replace p272 := eq_true p272
                replace q272 := eq_true q272
                have p273 : 0 ≤ (x5_1 : Int) := of_decide_eq_true (by first | (with_reducible assumption) | assumption)
                have q273 : x5_1 < (l1.length : Int) := of_decide_eq_true (by first | (with_reducible assumption) | assumption)
                obtain ⟨ad273, e273, hx273_0, hx273_1, hx273_2, hx273_3, hx273_4⟩ := at_T52 HR1.out x5_1 p273 q273
                cases e273
                replace p273 := eq_true p273
                replace q273 := eq_true q273
                go_wp2
                repeat (go_quiet (fail); try go_wp2)
                go_roundg k1
                case measure => have := HK1.out; omega
                case rel => exact ⟨(wrap64 (x5_1 + 1)), (by first | rfl | (simp; done) | (simp [*]; done)), H', ⟨by have := HK1.out; omega⟩, by repeat (first | exact Drawn0.refl _ | apply Drawn0.step)⟩
            · rw [if_neg c6] at H
              exact absurd H (by simp)
          · rw [if_neg c5] at H
            exact absurd H (by simp)
        · rw [if_neg c4] at H
          have c4b0 : decide (x5_1 < (l0.length : Int)) = false := decide_eq_false c4
          clear c4
          obtain rfl := Option.some.inj H
          go_wp2
          repeat (go_quiet (fail); try go_wp2)
          go_ret
          exact ⟨by first | rfl | (simp; done) | (simp [*]; done), by repeat (first | exact Drawn0.refl _ | apply Drawn0.step)⟩
  · rw [if_neg c3] at H
    have c3b0 : ((l0.length : Int) == (l1.length : Int)) = false := beq_eq_false_iff_ne.mpr c3
    have c3b1 : ((l0.length : Int) != (l1.length : Int)) = true := bne_iff_ne.mpr c3
    have c3b2 : (l0.length == l1.length) = false := by first | simpa using c3 | (simp at c3 ⊢; omega)
    obtain rfl := Option.some.inj H
    go_enter Try.func22, Try.ntmps22
    go_wp2
    repeat (go_quiet (fail); try go_wp2)
    go_ret
    exact ⟨by first | rfl | (simp; done) | (simp [*]; done), by repeat (first | exact Drawn0.refl _ | apply Drawn0.step)⟩

/-! ### rollcallref03_Less: function 41 -/
def rollcallref03_Less.f (a0 : ByteArray) (a1 : ByteArray) : Option (Bool) := if (a0.size : Int) < (a1.size : Int) then (some true) else (if (a0.size : Int) = (a1.size : Int) then (some (Op.bytesLess a0.toList a1.toList)) else (some false))
set_option maxHeartbeats 8000000 in
set_option maxRecDepth 100000 in
theorem rollcallref03_Less.calls (a0 : ByteArray) (a1 : ByteArray) (r : Bool) (w : World) (h : rollcallref03_Less.f a0 a1 = some r) :
    Calls Try.prog 41 #[.string a0, .string a1] w fun e w' => e = .returned (.bool r) ∧ Drawn0 w w' := by
  have H : (if (a0.size : Int) < (a1.size : Int) then (some true) else (if (a0.size : Int) = (a1.size : Int) then (some (Op.bytesLess a0.toList a1.toList)) else (some false))) = some r := h
  clear h
  by_cases c3 : (a0.size : Int) < (a1.size : Int)
  · rw [if_pos c3] at H
    have c3b0 : decide ((a0.size : Int) < (a1.size : Int)) = true := decide_eq_true c3
    have c3b1 : decide (a0.size < a1.size) = true := decide_eq_true (Int.ofNat_lt.mp c3)
    clear c3
    obtain rfl := Option.some.inj H
    go_enter Try.func41, Try.ntmps41
    go_wp2
    go_ret
    exact ⟨by first | rfl | (simp; done) | (simp [*]; done), by repeat (first | exact Drawn0.refl _ | apply Drawn0.step)⟩
  · rw [if_neg c3] at H
    have c3b0 : decide ((a0.size : Int) < (a1.size : Int)) = false := decide_eq_false c3
    have c3b1 : decide (a0.size < a1.size) = false := decide_eq_false (fun h => c3 (Int.ofNat_lt.mpr h))
    clear c3
    by_cases c4 : (a0.size : Int) = (a1.size : Int)
    · rw [if_pos c4] at H
      have c4b0 : ((a0.size : Int) == (a1.size : Int)) = true := beq_iff_eq.mpr c4
      have c4b1 : ((a0.size : Int) != (a1.size : Int)) = false := bne_eq_false_iff_eq.mpr c4
      have c4b2 : (a0.size == a1.size) = true := by first | simpa using c4 | (simp at c4 ⊢; omega)
      clear c4
      obtain rfl := Option.some.inj H
      go_enter Try.func41, Try.ntmps41
      go_wp2
      go_ret
      exact ⟨by first | rfl | (simp; done) | (simp [*]; done), by repeat (first | exact Drawn0.refl _ | apply Drawn0.step)⟩
    · rw [if_neg c4] at H
      have c4b0 : ((a0.size : Int) == (a1.size : Int)) = false := beq_eq_false_iff_ne.mpr c4
      have c4b1 : ((a0.size : Int) != (a1.size : Int)) = true := bne_iff_ne.mpr c4
      have c4b2 : (a0.size == a1.size) = false := by first | simpa using c4 | (simp at c4 ⊢; omega)
      obtain rfl := Option.some.inj H
      go_enter Try.func41, Try.ntmps41
      go_wp2
      go_ret
      exact ⟨by first | rfl | (simp; done) | (simp [*]; done), by repeat (first | exact Drawn0.refl _ | apply Drawn0.step)⟩

end Go.Proofs.Ythcmelchgnekpaa.PA
