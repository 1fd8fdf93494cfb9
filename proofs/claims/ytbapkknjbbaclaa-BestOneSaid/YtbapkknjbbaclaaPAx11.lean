-- Written by a program of this session (wip/tools/xprint.py), which drives the kit's print.
import Derived.Test.YtbapkknjbbaclaaPAx0
import Derived.Test.YtbapkknjbbaclaaPAx5
import Derived.Test.YtbapkknjbbaclaaPAx6
import Derived.Test.YtbapkknjbbaclaaPAx7
namespace Go.Proofs.Ytbapkknjbbaclaa.PA
open Go.RowKit Go.Proofs.YtbapkknjbbaclaaW.PrintWords Go.Proofs.YtbapkknjbbaclaaW.PrintLast Go.Proofs.YtbapkknjbbaclaaW.PrintMore
attribute [local go_sem] max2_int min2_int max_two min_two max_three min_three max_four min_four   -- for this text's walks alone
set_option linter.unusedVariables false
set_option linter.unusedSimpArgs false

attribute [local go_sem high] eqA34
/-! ### rollcalllaw11_BestOne: function 4 -/
mutual
def rollcalllaw11_BestOne.j0 : Nat → List (S34) → Bool → Option (Bool)
  | 0, _, _ => none
  | k + 1, x0, x17 => if x17 = true then ((rollcalllaw11_live.f k).bind fun t267 => (some t267)) else ((best_Best.f k x0).bind fun bt268 => ((best_Value.f k x0).bind fun bt276 => (rollcalllaw11_BestOne.l0 k x0 bt268.2.2.2.2.2.2 bt276.2.2.2.2 false false 0 bt268.1 bt268.2.1 bt268.2.2.1 bt268.2.2.2.1 bt268.2.2.2.2.1 bt268.2.2.2.2.2.1 bt276.1 bt276.2.1 bt276.2.2.1 bt276.2.2.2.1)))
def rollcalllaw11_BestOne.l0 : Nat → List (S34) → Bool → Bool → Bool → Bool → Int → ByteArray → Int → Int → Int → Int → ByteArray → Int → Int → Int → ByteArray → Option (Bool)
  | 0, _, _, _, _, _, _, _, _, _, _, _, _, _, _, _, _ => none
  | k + 1, x0, x4, x6, x7, x8, x9, x276000, x276001, x276002, x276003, x276004, x276005, x282000, x282001, x282002, x282003 => if x9 < (x0.length : Int) then (if 0 ≤ x9 then ((best_Slot.f ((rd_T34 x0 x9).f0) ((rd_T34 x0 x9).f1) ((rd_T34 x0 x9).f2.f0) ((rd_T34 x0 x9).f2.f1) ((rd_T34 x0 x9).f2.f2) ((rd_T34 x0 x9).f2.f3)).bind fun bt284 => ((best_Slot.f x276000 x276001 x276002 x276003 x276004 x276005).bind fun bt288 => ((heap_Better.f bt284.1 bt284.2.1 bt284.2.2.1 bt284.2.2.2 bt288.1 bt288.2.1 bt288.2.2.1 bt288.2.2.2).bind fun t292 => (if t292 = true then (some false) else (if ((rd_T34 x0 x9).f2.f0) > x282000 then (some false) else (if x7 = true then (if x8 = true then (rollcalllaw11_BestOne.l0 k x0 x4 x6 true true (wrap64 (x9 + 1)) x276000 x276001 x276002 x276003 x276004 x276005 x282000 x282001 x282002 x282003) else (rollcalllaw11_BestOne.l0 k x0 x4 x6 true (((rd_T34 x0 x9).f2.f0) == x282000) (wrap64 (x9 + 1)) x276000 x276001 x276002 x276003 x276004 x276005 x282000 x282001 x282002 x282003)) else (if x8 = true then (rollcalllaw11_BestOne.l0 k x0 x4 x6 ((((rd_T34 x0 x9).f0).toList) == x276000.toList && (((rd_T34 x0 x9).f1) == x276001 && ((((rd_T34 x0 x9).f2.f0) == x276002 && (((rd_T34 x0 x9).f2.f1) == x276003 && (((rd_T34 x0 x9).f2.f2) == x276004 && ((((rd_T34 x0 x9).f2.f3).toList) == x276005.toList))))))) true (wrap64 (x9 + 1)) x276000 x276001 x276002 x276003 x276004 x276005 x282000 x282001 x282002 x282003) else (rollcalllaw11_BestOne.l0 k x0 x4 x6 ((((rd_T34 x0 x9).f0).toList) == x276000.toList && (((rd_T34 x0 x9).f1) == x276001 && ((((rd_T34 x0 x9).f2.f0) == x276002 && (((rd_T34 x0 x9).f2.f1) == x276003 && (((rd_T34 x0 x9).f2.f2) == x276004 && ((((rd_T34 x0 x9).f2.f3).toList) == x276005.toList))))))) (((rd_T34 x0 x9).f2.f0) == x282000) (wrap64 (x9 + 1)) x276000 x276001 x276002 x276003 x276004 x276005 x282000 x282001 x282002 x282003)))))))) else (none)) else (if x4 = true then (if x6 = true then (if x7 = true then (if x8 = true then (if x282001 = x276003 then (if x282002 = x276004 then (if x282003.toList = x276005.toList then ((rollcalllaw11_live.f k).bind fun t282 => (some t282)) else (some false)) else (some false)) else (some false)) else (some false)) else (some false)) else (some false)) else (some false))
end
def rollcalllaw11_BestOne.f (k : Nat) (l0 : List (S34)) : Option (Bool) := (rollcallref09_Few.f k l0).bind fun t266 => (if t266 = true then (rollcalllaw11_BestOne.j0 k l0 ((l0.length : Int) == 0)) else (rollcalllaw11_BestOne.j0 k l0 true))
theorem rollcalllaw11_BestOne.mono_l : ∀ k, (∀ y0 y1, LeO (rollcalllaw11_BestOne.j0 k y0 y1) (rollcalllaw11_BestOne.j0 (k + 1) y0 y1)) ∧ (∀ y0 y1 y2 y3 y4 y5 y6 y7 y8 y9 y10 y11 y12 y13 y14 y15, LeO (rollcalllaw11_BestOne.l0 k y0 y1 y2 y3 y4 y5 y6 y7 y8 y9 y10 y11 y12 y13 y14 y15) (rollcalllaw11_BestOne.l0 (k + 1) y0 y1 y2 y3 y4 y5 y6 y7 y8 y9 y10 y11 y12 y13 y14 y15))
  | 0 => ⟨fun _ _ r h => by simp [rollcalllaw11_BestOne.j0] at h, fun _ _ _ _ _ _ _ _ _ _ _ _ _ _ _ _ r h => by simp [rollcalllaw11_BestOne.l0] at h⟩
  | k + 1 => by
    obtain ⟨ih0, ih1⟩ := rollcalllaw11_BestOne.mono_l k
    refine ⟨?_, ?_⟩
    · intro y0 y1
      unfold rollcalllaw11_BestOne.j0
      repeat' first
      | (with_reducible exact ih0 _ _)
      | (with_reducible exact ih1 _ _ _ _ _ _ _ _ _ _ _ _ _ _ _ _)
      | (with_reducible exact best_Best.mono _ _)
      | (with_reducible exact best_Value.mono _ _)
      | (with_reducible exact rollcalllaw11_live.mono _)
      | (with_reducible exact rollcallref09_Few.mono _ _)
      | (with_reducible exact LeO.refl _)
      | (with_reducible exact LeO.none _)
      | (with_reducible refine LeO.ite ?_ ?_)
      | (with_reducible refine LeO.bind ?_ (fun _ => ?_))
      | exact ih0 _ _
      | exact ih1 _ _ _ _ _ _ _ _ _ _ _ _ _ _ _ _
      | exact best_Best.mono _ _
      | exact best_Value.mono _ _
      | exact rollcalllaw11_live.mono _
      | exact rollcallref09_Few.mono _ _
      | exact LeO.none _
      | refine LeO.ite ?_ ?_
      | refine LeO.bind ?_ (fun _ => ?_)
    · intro y0 y1 y2 y3 y4 y5 y6 y7 y8 y9 y10 y11 y12 y13 y14 y15
      unfold rollcalllaw11_BestOne.l0
      repeat' first
      | (with_reducible exact ih0 _ _)
      | (with_reducible exact ih1 _ _ _ _ _ _ _ _ _ _ _ _ _ _ _ _)
      | (with_reducible exact best_Best.mono _ _)
      | (with_reducible exact best_Value.mono _ _)
      | (with_reducible exact rollcalllaw11_live.mono _)
      | (with_reducible exact rollcallref09_Few.mono _ _)
      | (with_reducible exact LeO.refl _)
      | (with_reducible exact LeO.none _)
      | (with_reducible refine LeO.ite ?_ ?_)
      | (with_reducible refine LeO.bind ?_ (fun _ => ?_))
      | exact ih0 _ _
      | exact ih1 _ _ _ _ _ _ _ _ _ _ _ _ _ _ _ _
      | exact best_Best.mono _ _
      | exact best_Value.mono _ _
      | exact rollcalllaw11_live.mono _
      | exact rollcallref09_Few.mono _ _
      | exact LeO.none _
      | refine LeO.ite ?_ ?_
      | refine LeO.bind ?_ (fun _ => ?_)
theorem rollcalllaw11_BestOne.mono : ∀ a0 k, LeO (rollcalllaw11_BestOne.f k a0) (rollcalllaw11_BestOne.f (k + 1) a0) := by
  intro a0 k
  obtain ⟨ih0, ih1⟩ := rollcalllaw11_BestOne.mono_l k
  unfold rollcalllaw11_BestOne.f
  repeat' first
      | (with_reducible exact ih0 _ _)
      | (with_reducible exact ih1 _ _ _ _ _ _ _ _ _ _ _ _ _ _ _ _)
      | (with_reducible exact best_Best.mono _ _)
      | (with_reducible exact best_Value.mono _ _)
      | (with_reducible exact rollcalllaw11_live.mono _)
      | (with_reducible exact rollcallref09_Few.mono _ _)
      | (with_reducible exact LeO.refl _)
      | (with_reducible exact LeO.none _)
      | (with_reducible refine LeO.ite ?_ ?_)
      | (with_reducible refine LeO.bind ?_ (fun _ => ?_))
      | exact ih0 _ _
      | exact ih1 _ _ _ _ _ _ _ _ _ _ _ _ _ _ _ _
      | exact best_Best.mono _ _
      | exact best_Value.mono _ _
      | exact rollcalllaw11_live.mono _
      | exact rollcallref09_Few.mono _ _
      | exact LeO.none _
      | refine LeO.ite ?_ ?_
      | refine LeO.bind ?_ (fun _ => ?_)
def rollcalllaw11_BestOne.T10 : Bool × List (List Nat × List Nat) := (true, [([], []), ([], []), ([0, 1], [0, 1]), ([2], [2]), ([3], [3]), ([], []), ([5, 4], [5]), ([4, 6, 6], [4, 6]), ([7, 7], [7]), ([8], [8]), ([8], [8]), ([9, 10, 8], [8, 9, 10]), ([11, 8], [8, 11]), ([12, 8], [8, 12]), ([13, 8], [8, 13]), ([8], [8]), ([15, 8], [8, 15]), ([14, 16, 8], [8, 14, 16]), ([8, 17], [8, 17])])
def rollcalllaw11_BestOne.B10 : List Nat := [0, 0, 3, 7, 15, 0, 63, 127, 255, 511, 511, 2047, 4095, 8191, 16383, 511, 33279, 131071, 262143]
theorem rollcalllaw11_BestOne.tab10 : rtab .any (opsOf Try.f4 10) = rollcalllaw11_BestOne.T10 := by kernel_rfl
theorem rollcalllaw11_BestOne.bits10 : waitsOk rollcalllaw11_BestOne.T10.2 rollcalllaw11_BestOne.B10 = true := by kernel_rfl
def rollcalllaw11_BestOne.T12 : Bool × List (List Nat × List Nat) := (true, [([], []), ([0], [0]), ([1], [1]), ([1], [1]), ([2, 3, 1], [1, 2, 3]), ([4, 1], [1, 4]), ([1], [1]), ([5, 6, 1], [1, 5, 6]), ([1, 7], [1, 7]), ([8, 1, 0, 1, 2, 3, 4, 5, 6, 7, 8], [0, 8])])
def rollcalllaw11_BestOne.B12 : List Nat := [0, 1, 3, 3, 15, 31, 3, 127, 255, 511]
theorem rollcalllaw11_BestOne.tab12 : rtab .any (opsOf Try.f4 12) = rollcalllaw11_BestOne.T12 := by kernel_rfl
theorem rollcalllaw11_BestOne.bits12 : waitsOk rollcalllaw11_BestOne.T12.2 rollcalllaw11_BestOne.B12 = true := by kernel_rfl
def rollcalllaw11_BestOne.T13 : Bool × List (List Nat × List Nat) := (true, [([], []), ([0], [0]), ([1], [1]), ([1], [1]), ([2, 3, 1], [1, 2, 3]), ([4, 1], [1, 4]), ([5, 1], [1, 5]), ([6, 1], [1, 6]), ([1], [1]), ([8, 1], [1, 8]), ([7, 9, 1], [1, 7, 9]), ([1, 10], [1, 10]), ([11, 1, 0, 1, 2, 3, 4, 5, 6, 7, 8, 9, 10, 11], [0, 11])])
def rollcalllaw11_BestOne.B13 : List Nat := [0, 1, 3, 3, 15, 31, 63, 127, 3, 259, 1023, 2047, 4095]
theorem rollcalllaw11_BestOne.tab13 : rtab .any (opsOf Try.f4 13) = rollcalllaw11_BestOne.T13 := by kernel_rfl
theorem rollcalllaw11_BestOne.bits13 : waitsOk rollcalllaw11_BestOne.T13.2 rollcalllaw11_BestOne.B13 = true := by kernel_rfl
set_option maxHeartbeats 8000000 in
set_option maxRecDepth 100000 in
theorem rollcalllaw11_BestOne.calls (k : Nat) (A0 : Option Addr) (c0 : Nat) (l0 : List (S34)) (r : Bool) (hT_ : r = true) (w : World) (hr0 : Kd.C k34 w A0 l0.length l0) (hc0 : l0.length ≤ c0) (h : rollcalllaw11_BestOne.f k l0 = some r) :
    Calls Try.prog 4 #[.slice A0 l0.length c0] w fun e w' => e = .returned (.bool r) ∧ Below w.heap.size w w' := by
  have hu34 := Try.underlying34
  have hu24 := Try.underlying24
  have HT := Aside0.mk hT_
  clear hT_
  have HR0 := Aside0.mk hr0
  have HC0 := Aside0.mk hc0
  clear hr0 hc0
  have HB := Aside0.mk (Below.refl w.heap.size w)
  have H : ((rollcallref09_Few.f k l0).bind fun t266 => (if t266 = true then (rollcalllaw11_BestOne.j0 k l0 ((l0.length : Int) == 0)) else (rollcalllaw11_BestOne.j0 k l0 true))) = some r := h
  clear h
  have HC2 := Aside0.mk H
  clear H
  go_enter Try.func4, Try.ntmps4
  go_upto_region 1 with (fail)
  go_cut [17] (fun v17 wc => ∃ (kq : Nat) (x17_1 : Bool), v17 = .bool x17_1 ∧ Aside0 (rollcalllaw11_BestOne.j0 kq l0 x17_1 = some r) ∧ Aside0 (kq ≤ k) ∧ Aside0 (Below w.heap.size w wc))
  case first =>
    have H := HC2.out
    clear HC2
    replace H := Option.bind_eq_some_iff.mp H
    obtain ⟨t266, A30, H⟩ := H
    replace H : (if t266 = true then (rollcalllaw11_BestOne.j0 k l0 ((l0.length : Int) == 0)) else (rollcalllaw11_BestOne.j0 k l0 true)) = some r := H
    have A3 := Aside0.mk A30
    clear A30
    by_cases c4 : t266 = true
    · subst c4
      have H1 : (rollcalllaw11_BestOne.j0 k l0 ((l0.length : Int) == 0)) = some r := by rw [if_pos rfl] at H; exact H
      clear H
      have H := H1
      clear H1
      have H' := Aside0.mk H
      clear H
      go_wp2_with (first | ((with_reducible refine gate_callee (f := 8) rfl ?_); refine goesL_ (some 11) rfl rfl Try.func8 (by kernel_rfl) rfl #[.slice A0 l0.length c0] rfl (by (try simp only [List.map_toArray, List.map_cons, List.map_nil]); first | done | rfl | (simp only [List.length_drop, List.length_take]; rfl)) ?_; (with_reducible refine (rollcallref09_Few.calls k _ _ l0 true _ ?side1 ?side2 A3.out).mono ?_); (case side1 => repeat (first | exact (Kd.C_below HR0.out HB.out) | (with_reducible refine Kd.C_alloc ?_ _) | (with_reducible refine Kd.C_drewN ?_ _) | (with_reducible refine Kd.C_drew ?_))); (case side2 => exact HC0.out); rintro e w' ⟨rfl, ⟨nd, rfl⟩⟩; refine ⟨_, rfl, ?_⟩))
      go_meet
      case rel => exact ⟨_, (((l0.length : Int) == 0)), (by first | rfl | (simp; done) | (simp [*]; done)), H', ⟨by first | omega | exact Nat.le_refl _⟩, ⟨by repeat (first | (with_reducible first | exact HB.out | apply below_alloc | apply pw_below_drewN | apply below_drew1) | exact HB.out)⟩⟩
    · replace c4 := Bool.eq_false_iff.mpr c4
      subst c4
      have H1 : (rollcalllaw11_BestOne.j0 k l0 true) = some r := by rw [if_neg (show ¬ (false = true) by decide)] at H; exact H
      clear H
      have H := H1
      clear H1
      have H' := Aside0.mk H
      clear H
      go_wp2_with (first | ((with_reducible refine gate_callee (f := 8) rfl ?_); refine goesL_ (some 11) rfl rfl Try.func8 (by kernel_rfl) rfl #[.slice A0 l0.length c0] rfl (by (try simp only [List.map_toArray, List.map_cons, List.map_nil]); first | done | rfl | (simp only [List.length_drop, List.length_take]; rfl)) ?_; (with_reducible refine (rollcallref09_Few.calls k _ _ l0 false _ ?side1 ?side2 A3.out).mono ?_); (case side1 => repeat (first | exact (Kd.C_below HR0.out HB.out) | (with_reducible refine Kd.C_alloc ?_ _) | (with_reducible refine Kd.C_drewN ?_ _) | (with_reducible refine Kd.C_drew ?_))); (case side2 => exact HC0.out); rintro e w' ⟨rfl, ⟨nd, rfl⟩⟩; refine ⟨_, rfl, ?_⟩))
      go_meet
      case rel => exact ⟨_, (true), (by first | rfl | (simp; done) | (simp [*]; done)), H', ⟨by first | omega | exact Nat.le_refl _⟩, ⟨by repeat (first | (with_reducible first | exact HB.out | apply below_alloc | apply pw_below_drewN | apply below_drew1) | exact HB.out)⟩⟩
  case rest =>
    clear HC2
    try clear p2
    try clear c4
    obtain ⟨kq, x17_1, rfl, HA, HJ1, HB⟩ := hcut
    cases kq with
    | zero => exact absurd HA.out (by simp [rollcalllaw11_BestOne.j0])
    | succ kj1 =>
      have H := HA.out
      clear HA
      simp only [rollcalllaw11_BestOne.j0] at H
      by_cases c5 : x17_1 = true
      · subst c5
        have H1 : ((rollcalllaw11_live.f kj1).bind fun t267 => (some t267)) = some r := by rw [if_pos rfl] at H; exact H
        clear H
        have H := H1
        clear H1
        replace H := Option.bind_eq_some_iff.mp H
        obtain ⟨t267, A60, H⟩ := H
        replace H : (some t267) = some r := H
        have A6 := Aside0.mk A60
        clear A60
        obtain rfl := Option.some.inj H
        go_wp2_with (first | ((with_reducible refine gate_callee (f := 9) rfl ?_); refine goesL_ (some 18) rfl rfl Try.func9 (by kernel_rfl) rfl #[] rfl (by (try simp only [List.map_toArray, List.map_cons, List.map_nil]); first | done | rfl | (simp only [List.length_drop, List.length_take]; rfl)) ?_; (with_reducible refine (rollcalllaw11_live.calls kj1  t267 _ A6.out).mono ?_); rintro e w7 ⟨rfl, hb⟩; refine ⟨_, rfl, ?_⟩; have n0_ := Aside0.mk (below_step (by repeat (first | (with_reducible first | exact HB.out | apply below_alloc | apply pw_below_drewN | apply below_drew1) | exact HB.out)) hb); clear HB; have HB := n0_; clear n0_; (try clear hb); (try clear hb2); (try clear hk); (try clear hi)))
        go_ret
        exact ⟨by first | rfl | (simp [errW_none, errW_some] <;> rfl) | (simp [*, errW_none, errW_some] <;> rfl), by repeat (first | (with_reducible first | exact HB.out | apply below_alloc | apply pw_below_drewN | apply below_drew1) | exact HB.out)⟩
      · replace c5 := Bool.eq_false_iff.mpr c5
        subst c5
        have H1 : ((best_Best.f kj1 l0).bind fun bt268 => ((best_Value.f kj1 l0).bind fun bt276 => (rollcalllaw11_BestOne.l0 kj1 l0 bt268.2.2.2.2.2.2 bt276.2.2.2.2 false false 0 bt268.1 bt268.2.1 bt268.2.2.1 bt268.2.2.2.1 bt268.2.2.2.2.1 bt268.2.2.2.2.2.1 bt276.1 bt276.2.1 bt276.2.2.1 bt276.2.2.2.1))) = some r := by rw [if_neg (show ¬ (false = true) by decide)] at H; exact H
        clear H
        have H := H1
        clear H1
        replace H := Option.bind_eq_some_iff.mp H
        obtain ⟨⟨t268, t269, t270, t271, t272, t273, t274⟩, A80, H⟩ := H
        replace H : ((best_Value.f kj1 l0).bind fun bt276 => (rollcalllaw11_BestOne.l0 kj1 l0 t274 bt276.2.2.2.2 false false 0 t268 t269 t270 t271 t272 t273 bt276.1 bt276.2.1 bt276.2.2.1 bt276.2.2.2.1)) = some r := H
        have A8 := Aside0.mk A80
        clear A80
        replace H := Option.bind_eq_some_iff.mp H
        obtain ⟨⟨t276, t277, t278, t279, t280⟩, A90, H⟩ := H
        replace H : (rollcalllaw11_BestOne.l0 kj1 l0 t274 t280 false false 0 t268 t269 t270 t271 t272 t273 t276 t277 t278 t279) = some r := H
        have A9 := Aside0.mk A90
        clear A90
        have H' := Aside0.mk H
        clear H
        go_wp2_with (first | ((with_reducible refine gate_callee (f := 15) rfl ?_); refine goesL_ (some 21) rfl rfl Try.func15 (by kernel_rfl) rfl #[.slice A0 l0.length c0] rfl (by (try simp only [List.map_toArray, List.map_cons, List.map_nil]); first | done | rfl | (simp only [List.length_drop, List.length_take]; rfl)) ?_; (with_reducible refine (best_Best.calls kj1 _ _ l0 t268 t269 t270 t271 t272 t273 t274 _ ?side1 ?side2 A8.out).mono ?_); (case side1 => repeat (first | exact (Kd.C_below HR0.out HB.out) | (with_reducible refine Kd.C_alloc ?_ _) | (with_reducible refine Kd.C_drewN ?_ _) | (with_reducible refine Kd.C_drew ?_))); (case side2 => exact HC0.out); rintro e w10 ⟨rfl, hb⟩; refine ⟨_, rfl, ?_⟩; have n0_ := Aside0.mk (below_step (by repeat (first | (with_reducible first | exact HB.out | apply below_alloc | apply pw_below_drewN | apply below_drew1) | exact HB.out)) hb); clear HB; have HB := n0_; clear n0_; (try clear hb); (try clear hb2); (try clear hk); (try clear hi)) | ((with_reducible refine gate_dst (N := 3) rfl ?_); (try (refine gate_guard (by rfl) ?_; dsimp only)); refine box_event ?hg (N := 3) ?hd (cs := #[.string (⟨#[]⟩ : ByteArray), .int .i64 0, .int .i64 0, .int .i64 0, .int .i64 0, .string (⟨#[]⟩ : ByteArray)]) (t := 34) ?hr ?_; (case hd => rfl); (case hg => rfl); (case hr => first | (go_simp; done) | (go_simp; rfl)); intro gb275 hg w11 hbox hb; have n0_ := Aside0.mk (below_step (by repeat (first | (with_reducible first | exact HB.out | apply below_alloc | apply pw_below_drewN | apply below_drew1) | exact HB.out)) hb); have n1_ := Aside0.mk (hbox); have n2_ := Aside0.mk ((by rw [hg]; exact (below_size (by repeat (first | (with_reducible first | exact HB.out | apply below_alloc | apply pw_below_drewN | apply below_drew1) | exact HB.out))) : w.heap.size ≤ gb275)); have n3_ := Aside0.mk ((by rw [hg]; exact (below_size (by repeat (first | (with_reducible first | exact HB.out | apply below_alloc | apply pw_below_drewN | apply below_drew1) | exact HB.out))) : w.heap.size ≤ gb275)); clear HB; have HB := n0_; have BK275 := n1_; have GW275 := n2_; have GE275 := n3_; clear n0_ n1_ n2_ n3_; clear hb hbox hg; have hcz12_0 : w11.cell? ⟨gb275, 0, none⟩ = some (.string (⟨#[]⟩ : ByteArray)) := (blk_cell BK275.out 0).trans rfl; have hcz12_1 : w11.cell? ⟨gb275, 1, none⟩ = some (.int .i64 0) := (blk_cell BK275.out 1).trans rfl; have hcz12_2 : w11.cell? ⟨gb275, 2, none⟩ = some (.int .i64 0) := (blk_cell BK275.out 2).trans rfl; have hcz12_3 : w11.cell? ⟨gb275, 3, none⟩ = some (.int .i64 0) := (blk_cell BK275.out 3).trans rfl; have hcz12_4 : w11.cell? ⟨gb275, 4, none⟩ = some (.int .i64 0) := (blk_cell BK275.out 4).trans rfl; have hcz12_5 : w11.cell? ⟨gb275, 5, none⟩ = some (.string (⟨#[]⟩ : ByteArray)) := (blk_cell BK275.out 5).trans rfl; have hfz12_0 := blk_frozen BK275.out 0; have hfz12_1 := blk_frozen BK275.out 1; have hfz12_2 := blk_frozen BK275.out 2; have hfz12_3 := blk_frozen BK275.out 3; have hfz12_4 := blk_frozen BK275.out 4; have hfz12_5 := blk_frozen BK275.out 5) | ((with_reducible refine gate_callee (f := 17) rfl ?_); refine goesL_ (some 26) rfl rfl Try.func17 (by kernel_rfl) rfl #[.slice A0 l0.length c0] rfl (by (try simp only [List.map_toArray, List.map_cons, List.map_nil]); first | done | rfl | (simp only [List.length_drop, List.length_take]; rfl)) ?_; (with_reducible refine (best_Value.calls kj1 _ _ l0 t276 t277 t278 t279 t280 _ ?side1 ?side2 A9.out).mono ?_); (case side1 => exact Kd.C_below HR0.out (by repeat (first | (with_reducible first | exact HB.out | apply below_alloc | apply pw_below_drewN | apply below_drew1 | refine below_set ?_ GE275.out) | exact HB.out))); (case side2 => exact HC0.out); rintro e w13 ⟨rfl, hb⟩; refine ⟨_, rfl, ?_⟩; have n0_ := Aside0.mk (blk_below (g := gb275) (o := .cells #[.string t268, .int .i64 t269, .int .i64 t270, .int .i64 t271, .int .i64 t272, .string t273] 34 (0, 0)) (by (with_reducible repeat (first | refine blk_drewN ?_ _ | refine blk_drew ?_ | refine blk_alloc ?_ _)); refine blk_put (cs := #[.string t268, .int .i64 t269, .int .i64 t270, .int .i64 t271, .int .i64 t272, .string (⟨#[]⟩ : ByteArray)]) ?_ 5 _ rfl; (with_reducible repeat (first | refine blk_drewN ?_ _ | refine blk_drew ?_ | refine blk_alloc ?_ _)); refine blk_put (cs := #[.string t268, .int .i64 t269, .int .i64 t270, .int .i64 t271, .int .i64 0, .string (⟨#[]⟩ : ByteArray)]) ?_ 4 _ rfl; (with_reducible repeat (first | refine blk_drewN ?_ _ | refine blk_drew ?_ | refine blk_alloc ?_ _)); refine blk_put (cs := #[.string t268, .int .i64 t269, .int .i64 t270, .int .i64 0, .int .i64 0, .string (⟨#[]⟩ : ByteArray)]) ?_ 3 _ rfl; (with_reducible repeat (first | refine blk_drewN ?_ _ | refine blk_drew ?_ | refine blk_alloc ?_ _)); refine blk_put (cs := #[.string t268, .int .i64 t269, .int .i64 0, .int .i64 0, .int .i64 0, .string (⟨#[]⟩ : ByteArray)]) ?_ 2 _ rfl; (with_reducible repeat (first | refine blk_drewN ?_ _ | refine blk_drew ?_ | refine blk_alloc ?_ _)); refine blk_put (cs := #[.string t268, .int .i64 0, .int .i64 0, .int .i64 0, .int .i64 0, .string (⟨#[]⟩ : ByteArray)]) ?_ 1 _ rfl; (with_reducible repeat (first | refine blk_drewN ?_ _ | refine blk_drew ?_ | refine blk_alloc ?_ _)); refine blk_put (cs := #[.string (⟨#[]⟩ : ByteArray), .int .i64 0, .int .i64 0, .int .i64 0, .int .i64 0, .string (⟨#[]⟩ : ByteArray)]) ?_ 0 _ rfl; (with_reducible repeat (first | refine blk_drewN ?_ _ | refine blk_drew ?_ | refine blk_alloc ?_ _)); exact BK275.out) hb); have n1_ := Aside0.mk (below_step (by repeat (first | (with_reducible first | exact HB.out | apply below_alloc | apply pw_below_drewN | apply below_drew1 | refine below_set ?_ GE275.out) | exact HB.out)) hb); clear BK275; clear HB; have BK275 := n0_; have HB := n1_; clear n0_ n1_; (try clear hb); (try clear hb2); (try clear hk); (try clear hi)) | ((with_reducible refine gate_dst (N := 5) rfl ?_); (try (refine gate_guard (by rfl) ?_; dsimp only)); refine box_event ?hg (N := 5) ?hd (cs := #[.int .i64 0, .int .i64 0, .int .i64 0, .string (⟨#[]⟩ : ByteArray)]) (t := 24) ?hr ?_; (case hd => rfl); (case hg => rfl); (case hr => first | (go_simp; done) | (go_simp; rfl)); intro gb281 hg w14 hbox hb; have n0_ := Aside0.mk (blk_below (g := gb275) (o := .cells #[.string t268, .int .i64 t269, .int .i64 t270, .int .i64 t271, .int .i64 t272, .string t273] 34 (0, 0)) (by (with_reducible repeat (first | refine blk_drewN ?_ _ | refine blk_drew ?_ | refine blk_alloc ?_ _)); exact BK275.out) hb); have n1_ := Aside0.mk (below_step (by repeat (first | (with_reducible first | exact HB.out | apply below_alloc | apply pw_below_drewN | apply below_drew1 | refine below_set ?_ GE275.out) | exact HB.out)) hb); have n2_ := Aside0.mk (hbox); have n3_ := Aside0.mk ((by rw [hg]; exact (below_size (by repeat (first | (with_reducible first | exact HB.out | apply below_alloc | apply pw_below_drewN | apply below_drew1 | refine below_set ?_ GE275.out) | exact HB.out))) : w.heap.size ≤ gb281)); have n4_ := Aside0.mk ((by rw [hg]; exact (below_size (by repeat (first | (with_reducible first | exact HB.out | apply below_alloc | apply pw_below_drewN | apply below_drew1 | refine below_set ?_ GE275.out) | exact HB.out))) : w.heap.size ≤ gb281)); have n5_ := Aside0.mk ((by rw [hg]; exact Nat.ne_of_lt (blk_lt (g := gb275) (o := .cells #[.string t268, .int .i64 t269, .int .i64 t270, .int .i64 t271, .int .i64 t272, .string t273] 34 (0, 0)) (by (with_reducible repeat (first | refine blk_drewN ?_ _ | refine blk_drew ?_ | refine blk_alloc ?_ _)); exact BK275.out)) : gb275 ≠ gb281)); have n6_ := Aside0.mk ((by rw [hg]; exact Nat.ne_of_gt (blk_lt (g := gb275) (o := .cells #[.string t268, .int .i64 t269, .int .i64 t270, .int .i64 t271, .int .i64 t272, .string t273] 34 (0, 0)) (by (with_reducible repeat (first | refine blk_drewN ?_ _ | refine blk_drew ?_ | refine blk_alloc ?_ _)); exact BK275.out)) : gb281 ≠ gb275)); clear BK275; clear HB; have BK275 := n0_; have HB := n1_; have BK281 := n2_; have GW281 := n3_; have GE281 := n4_; have NB275_281 := n5_; have NB281_275 := n6_; clear n0_ n1_ n2_ n3_ n4_ n5_ n6_; clear hb hbox hg; have hnb15 := NB281_275.out; have hnc15 := NB275_281.out; have hcz16_0 : w14.cell? ⟨gb281, 0, none⟩ = some (.int .i64 0) := (blk_cell BK281.out 0).trans rfl; have hcz16_1 : w14.cell? ⟨gb281, 1, none⟩ = some (.int .i64 0) := (blk_cell BK281.out 1).trans rfl; have hcz16_2 : w14.cell? ⟨gb281, 2, none⟩ = some (.int .i64 0) := (blk_cell BK281.out 2).trans rfl; have hcz16_3 : w14.cell? ⟨gb281, 3, none⟩ = some (.string (⟨#[]⟩ : ByteArray)) := (blk_cell BK281.out 3).trans rfl; have hfz16_0 := blk_frozen BK281.out 0; have hfz16_1 := blk_frozen BK281.out 1; have hfz16_2 := blk_frozen BK281.out 2; have hfz16_3 := blk_frozen BK281.out 3))
        go_loopg [7, 8, 9] kj1 (fun kq v7 v8 v9 w' => ∃ (x7_2 : Bool) (x8_2 : Bool) (x9_2 : Int), v7 = .bool x7_2 ∧ v8 = .bool x8_2 ∧ v9 = .int .i64 x9_2 ∧ Aside0 (rollcalllaw11_BestOne.l0 kq l0 t274 t280 x7_2 x8_2 x9_2 t268 t269 t270 t271 t272 t273 t276 t277 t278 t279 = some r) ∧ Aside0 (kq ≤ kj1) ∧ Aside0 (w'.heap[gb275]? = some (.cells #[.string t268, .int .i64 t269, .int .i64 t270, .int .i64 t271, .int .i64 t272, .string t273] 34 (0, 0))) ∧ Aside0 (w'.heap[gb281]? = some (.cells #[.int .i64 t276, .int .i64 t277, .int .i64 t278, .string t279] 24 (0, 0))) ∧ Aside0 (Below w.heap.size w w'))
        case atStart => exact ⟨(false), (false), (0), (by first | rfl | (simp; done) | (simp [*]; done)), (by first | rfl | (simp; done) | (simp [*]; done)), (by first | rfl | (simp; done) | (simp [*]; done)), H', ⟨Nat.le_refl _⟩, ⟨by (with_reducible repeat (first | refine blk_drewN ?_ _ | refine blk_drew ?_ | refine blk_alloc ?_ _)); refine blk_far ?_ NB275_281.out _; (with_reducible repeat (first | refine blk_drewN ?_ _ | refine blk_drew ?_ | refine blk_alloc ?_ _)); refine blk_far ?_ NB275_281.out _; (with_reducible repeat (first | refine blk_drewN ?_ _ | refine blk_drew ?_ | refine blk_alloc ?_ _)); refine blk_far ?_ NB275_281.out _; (with_reducible repeat (first | refine blk_drewN ?_ _ | refine blk_drew ?_ | refine blk_alloc ?_ _)); refine blk_far ?_ NB275_281.out _; (with_reducible repeat (first | refine blk_drewN ?_ _ | refine blk_drew ?_ | refine blk_alloc ?_ _)); exact BK275.out⟩, ⟨by (with_reducible repeat (first | refine blk_drewN ?_ _ | refine blk_drew ?_ | refine blk_alloc ?_ _)); refine blk_put (cs := #[.int .i64 t276, .int .i64 t277, .int .i64 t278, .string (⟨#[]⟩ : ByteArray)]) ?_ 3 _ rfl; (with_reducible repeat (first | refine blk_drewN ?_ _ | refine blk_drew ?_ | refine blk_alloc ?_ _)); refine blk_put (cs := #[.int .i64 t276, .int .i64 t277, .int .i64 0, .string (⟨#[]⟩ : ByteArray)]) ?_ 2 _ rfl; (with_reducible repeat (first | refine blk_drewN ?_ _ | refine blk_drew ?_ | refine blk_alloc ?_ _)); refine blk_put (cs := #[.int .i64 t276, .int .i64 0, .int .i64 0, .string (⟨#[]⟩ : ByteArray)]) ?_ 1 _ rfl; (with_reducible repeat (first | refine blk_drewN ?_ _ | refine blk_drew ?_ | refine blk_alloc ?_ _)); refine blk_put (cs := #[.int .i64 0, .int .i64 0, .int .i64 0, .string (⟨#[]⟩ : ByteArray)]) ?_ 0 _ rfl; (with_reducible repeat (first | refine blk_drewN ?_ _ | refine blk_drew ?_ | refine blk_alloc ?_ _)); exact BK281.out⟩, ⟨by repeat (first | (with_reducible first | exact HB.out | apply below_alloc | apply pw_below_drewN | apply below_drew1 | refine below_set ?_ GE275.out | refine below_set ?_ GE281.out) | exact HB.out)⟩⟩
        case round =>
          clear H'
          try clear c1
          try clear p2
          try clear c4
          try clear c5
          try clear c8
          try clear c9
          try clear c15
          try clear hcz12_0
          try clear hcz12_1
          try clear hcz12_2
          try clear hcz12_3
          try clear hcz12_4
          try clear hcz12_5
          try clear hcz16_0
          try clear hcz16_1
          try clear hcz16_2
          try clear hcz16_3
          try clear hfz12_0
          try clear hfz12_1
          try clear hfz12_2
          try clear hfz12_3
          try clear hfz12_4
          try clear hfz12_5
          try clear hfz16_0
          try clear hfz16_1
          try clear hfz16_2
          try clear hfz16_3
          try clear p2
          obtain ⟨x7_2, x8_2, x9_2, rfl, rfl, rfl, HA, HK2, BK275, BK281, HB⟩ := hrel
          cases gk with
          | zero => exact absurd HA.out (by simp [rollcalllaw11_BestOne.l0])
          | succ k2 =>
            have H := HA.out
            clear HA
            simp only [rollcalllaw11_BestOne.l0] at H
            by_cases c17 : x9_2 < (l0.length : Int)
            · rw [if_pos c17] at H
              have c17b0 : decide (x9_2 < (l0.length : Int)) = true := decide_eq_true c17
              clear c17
              by_cases c18 : 0 ≤ x9_2
              · rw [if_pos c18] at H
                have c18b0 : decide (0 ≤ x9_2) = true := decide_eq_true c18
                clear c18
                replace H := Option.bind_eq_some_iff.mp H
                obtain ⟨⟨t284, t285, t286, t287⟩, A190, H⟩ := H
                replace H : ((best_Slot.f t268 t269 t270 t271 t272 t273).bind fun bt288 => ((heap_Better.f t284 t285 t286 t287 bt288.1 bt288.2.1 bt288.2.2.1 bt288.2.2.2).bind fun t292 => (if t292 = true then (some false) else (if ((rd_T34 l0 x9_2).f2.f0) > t276 then (some false) else (if x7_2 = true then (if x8_2 = true then (rollcalllaw11_BestOne.l0 k2 l0 t274 t280 true true (wrap64 (x9_2 + 1)) t268 t269 t270 t271 t272 t273 t276 t277 t278 t279) else (rollcalllaw11_BestOne.l0 k2 l0 t274 t280 true (((rd_T34 l0 x9_2).f2.f0) == t276) (wrap64 (x9_2 + 1)) t268 t269 t270 t271 t272 t273 t276 t277 t278 t279)) else (if x8_2 = true then (rollcalllaw11_BestOne.l0 k2 l0 t274 t280 ((((rd_T34 l0 x9_2).f0).toList) == t268.toList && (((rd_T34 l0 x9_2).f1) == t269 && ((((rd_T34 l0 x9_2).f2.f0) == t270 && (((rd_T34 l0 x9_2).f2.f1) == t271 && (((rd_T34 l0 x9_2).f2.f2) == t272 && ((((rd_T34 l0 x9_2).f2.f3).toList) == t273.toList))))))) true (wrap64 (x9_2 + 1)) t268 t269 t270 t271 t272 t273 t276 t277 t278 t279) else (rollcalllaw11_BestOne.l0 k2 l0 t274 t280 ((((rd_T34 l0 x9_2).f0).toList) == t268.toList && (((rd_T34 l0 x9_2).f1) == t269 && ((((rd_T34 l0 x9_2).f2.f0) == t270 && (((rd_T34 l0 x9_2).f2.f1) == t271 && (((rd_T34 l0 x9_2).f2.f2) == t272 && ((((rd_T34 l0 x9_2).f2.f3).toList) == t273.toList))))))) (((rd_T34 l0 x9_2).f2.f0) == t276) (wrap64 (x9_2 + 1)) t268 t269 t270 t271 t272 t273 t276 t277 t278 t279))))))) = some r := H
                have A19 := Aside0.mk A190
                clear A190
                replace H := Option.bind_eq_some_iff.mp H
                obtain ⟨⟨t288, t289, t290, t291⟩, A200, H⟩ := H
                replace H : ((heap_Better.f t284 t285 t286 t287 t288 t289 t290 t291).bind fun t292 => (if t292 = true then (some false) else (if ((rd_T34 l0 x9_2).f2.f0) > t276 then (some false) else (if x7_2 = true then (if x8_2 = true then (rollcalllaw11_BestOne.l0 k2 l0 t274 t280 true true (wrap64 (x9_2 + 1)) t268 t269 t270 t271 t272 t273 t276 t277 t278 t279) else (rollcalllaw11_BestOne.l0 k2 l0 t274 t280 true (((rd_T34 l0 x9_2).f2.f0) == t276) (wrap64 (x9_2 + 1)) t268 t269 t270 t271 t272 t273 t276 t277 t278 t279)) else (if x8_2 = true then (rollcalllaw11_BestOne.l0 k2 l0 t274 t280 ((((rd_T34 l0 x9_2).f0).toList) == t268.toList && (((rd_T34 l0 x9_2).f1) == t269 && ((((rd_T34 l0 x9_2).f2.f0) == t270 && (((rd_T34 l0 x9_2).f2.f1) == t271 && (((rd_T34 l0 x9_2).f2.f2) == t272 && ((((rd_T34 l0 x9_2).f2.f3).toList) == t273.toList))))))) true (wrap64 (x9_2 + 1)) t268 t269 t270 t271 t272 t273 t276 t277 t278 t279) else (rollcalllaw11_BestOne.l0 k2 l0 t274 t280 ((((rd_T34 l0 x9_2).f0).toList) == t268.toList && (((rd_T34 l0 x9_2).f1) == t269 && ((((rd_T34 l0 x9_2).f2.f0) == t270 && (((rd_T34 l0 x9_2).f2.f1) == t271 && (((rd_T34 l0 x9_2).f2.f2) == t272 && ((((rd_T34 l0 x9_2).f2.f3).toList) == t273.toList))))))) (((rd_T34 l0 x9_2).f2.f0) == t276) (wrap64 (x9_2 + 1)) t268 t269 t270 t271 t272 t273 t276 t277 t278 t279)))))) = some r := H
                have A20 := Aside0.mk A200
                clear A200
                replace H := Option.bind_eq_some_iff.mp H
                obtain ⟨t292, A210, H⟩ := H
                replace H : (if t292 = true then (some false) else (if ((rd_T34 l0 x9_2).f2.f0) > t276 then (some false) else (if x7_2 = true then (if x8_2 = true then (rollcalllaw11_BestOne.l0 k2 l0 t274 t280 true true (wrap64 (x9_2 + 1)) t268 t269 t270 t271 t272 t273 t276 t277 t278 t279) else (rollcalllaw11_BestOne.l0 k2 l0 t274 t280 true (((rd_T34 l0 x9_2).f2.f0) == t276) (wrap64 (x9_2 + 1)) t268 t269 t270 t271 t272 t273 t276 t277 t278 t279)) else (if x8_2 = true then (rollcalllaw11_BestOne.l0 k2 l0 t274 t280 ((((rd_T34 l0 x9_2).f0).toList) == t268.toList && (((rd_T34 l0 x9_2).f1) == t269 && ((((rd_T34 l0 x9_2).f2.f0) == t270 && (((rd_T34 l0 x9_2).f2.f1) == t271 && (((rd_T34 l0 x9_2).f2.f2) == t272 && ((((rd_T34 l0 x9_2).f2.f3).toList) == t273.toList))))))) true (wrap64 (x9_2 + 1)) t268 t269 t270 t271 t272 t273 t276 t277 t278 t279) else (rollcalllaw11_BestOne.l0 k2 l0 t274 t280 ((((rd_T34 l0 x9_2).f0).toList) == t268.toList && (((rd_T34 l0 x9_2).f1) == t269 && ((((rd_T34 l0 x9_2).f2.f0) == t270 && (((rd_T34 l0 x9_2).f2.f1) == t271 && (((rd_T34 l0 x9_2).f2.f2) == t272 && ((((rd_T34 l0 x9_2).f2.f3).toList) == t273.toList))))))) (((rd_T34 l0 x9_2).f2.f0) == t276) (wrap64 (x9_2 + 1)) t268 t269 t270 t271 t272 t273 t276 t277 t278 t279))))) = some r := H
                have A21 := Aside0.mk A210
                clear A210
                by_cases c22 : t292 = true
                · subst c22
                  have H1 : (some false) = some r := by rw [if_pos rfl] at H; exact H
                  clear H
                  have H := H1
                  clear H1
                  exact absurd ((Option.some.inj H).trans HT.out) (by simp)
                · replace c22 := Bool.eq_false_iff.mpr c22
                  subst c22
                  have H1 : (if ((rd_T34 l0 x9_2).f2.f0) > t276 then (some false) else (if x7_2 = true then (if x8_2 = true then (rollcalllaw11_BestOne.l0 k2 l0 t274 t280 true true (wrap64 (x9_2 + 1)) t268 t269 t270 t271 t272 t273 t276 t277 t278 t279) else (rollcalllaw11_BestOne.l0 k2 l0 t274 t280 true (((rd_T34 l0 x9_2).f2.f0) == t276) (wrap64 (x9_2 + 1)) t268 t269 t270 t271 t272 t273 t276 t277 t278 t279)) else (if x8_2 = true then (rollcalllaw11_BestOne.l0 k2 l0 t274 t280 ((((rd_T34 l0 x9_2).f0).toList) == t268.toList && (((rd_T34 l0 x9_2).f1) == t269 && ((((rd_T34 l0 x9_2).f2.f0) == t270 && (((rd_T34 l0 x9_2).f2.f1) == t271 && (((rd_T34 l0 x9_2).f2.f2) == t272 && ((((rd_T34 l0 x9_2).f2.f3).toList) == t273.toList))))))) true (wrap64 (x9_2 + 1)) t268 t269 t270 t271 t272 t273 t276 t277 t278 t279) else (rollcalllaw11_BestOne.l0 k2 l0 t274 t280 ((((rd_T34 l0 x9_2).f0).toList) == t268.toList && (((rd_T34 l0 x9_2).f1) == t269 && ((((rd_T34 l0 x9_2).f2.f0) == t270 && (((rd_T34 l0 x9_2).f2.f1) == t271 && (((rd_T34 l0 x9_2).f2.f2) == t272 && ((((rd_T34 l0 x9_2).f2.f3).toList) == t273.toList))))))) (((rd_T34 l0 x9_2).f2.f0) == t276) (wrap64 (x9_2 + 1)) t268 t269 t270 t271 t272 t273 t276 t277 t278 t279)))) = some r := by rw [if_neg (show ¬ (false = true) by decide)] at H; exact H
                  clear H
                  have H := H1
                  clear H1
                  by_cases c23 : ((rd_T34 l0 x9_2).f2.f0) > t276
                  · rw [if_pos c23] at H
                    have c23b0 : decide (t276 < ((rd_T34 l0 x9_2).f2.f0)) = true := decide_eq_true c23
                    clear c23
                    exact absurd ((Option.some.inj H).trans HT.out) (by simp)
                  · rw [if_neg c23] at H
                    have c23b0 : decide (t276 < ((rd_T34 l0 x9_2).f2.f0)) = false := decide_eq_false c23
                    clear c23
                    by_cases c24 : x7_2 = true
                    · subst c24
                      have H1 : (if x8_2 = true then (rollcalllaw11_BestOne.l0 k2 l0 t274 t280 true true (wrap64 (x9_2 + 1)) t268 t269 t270 t271 t272 t273 t276 t277 t278 t279) else (rollcalllaw11_BestOne.l0 k2 l0 t274 t280 true (((rd_T34 l0 x9_2).f2.f0) == t276) (wrap64 (x9_2 + 1)) t268 t269 t270 t271 t272 t273 t276 t277 t278 t279)) = some r := by rw [if_pos rfl] at H; exact H
                      clear H
                      have H := H1
                      clear H1
                      by_cases c25 : x8_2 = true
                      · subst c25
                        have H1 : (rollcalllaw11_BestOne.l0 k2 l0 t274 t280 true true (wrap64 (x9_2 + 1)) t268 t269 t270 t271 t272 t273 t276 t277 t278 t279) = some r := by rw [if_pos rfl] at H; exact H
                        clear H
                        have H := H1
                        clear H1
                        have H' := Aside0.mk H
                        clear H
                        try go_wp2
                        have n0_ := Aside0.mk (blk_drew BK275.out)
                        have n1_ := Aside0.mk (blk_drew BK281.out)
                        have n2_ := Aside0.mk (below_drew1 HB.out)
                        clear BK275
                        clear BK281
                        clear HB
                        have BK275 := n0_
                        have BK281 := n1_
                        have HB := n2_
                        clear n0_ n1_ n2_
                        have p283 : 0 ≤ (x9_2 : Int) := of_decide_eq_true (by first | (with_reducible assumption) | assumption)
                        have q283 : x9_2 < (l0.length : Int) := of_decide_eq_true (by first | (with_reducible assumption) | assumption)
                        obtain ⟨ad283, e283, hx283_0, hx283_1, hx283_2, hx283_3, hx283_4, hx283_5⟩ := at_T34 HR0.out x9_2 p283 q283
                        have hw283_5 := hx283_5
                        have hw283_4 := hx283_4
                        have hw283_3 := hx283_3
                        have hw283_2 := hx283_2
                        have hw283_1 := hx283_1
                        have hw283_0 := hx283_0
                        cases e283
                        replace hx283_0 := (HB.out.cell (World.block_lt_of_cell? w _ hx283_0)).trans hx283_0
                        replace hx283_1 := (HB.out.cell (World.block_lt_of_cell? w _ hx283_1)).trans hx283_1
                        replace hx283_2 := (HB.out.cell (World.block_lt_of_cell? w _ hx283_2)).trans hx283_2
                        replace hx283_3 := (HB.out.cell (World.block_lt_of_cell? w _ hx283_3)).trans hx283_3
                        replace hx283_4 := (HB.out.cell (World.block_lt_of_cell? w _ hx283_4)).trans hx283_4
                        replace hx283_5 := (HB.out.cell (World.block_lt_of_cell? w _ hx283_5)).trans hx283_5
                        replace p283 := eq_true p283
                        replace q283 := eq_true q283
                        have p293 : 0 ≤ (x9_2 : Int) := of_decide_eq_true (by first | (with_reducible assumption) | assumption)
                        have q293 : x9_2 < (l0.length : Int) := of_decide_eq_true (by first | (with_reducible assumption) | assumption)
                        obtain ⟨ad293, e293, hx293_0, hx293_1, hx293_2, hx293_3, hx293_4, hx293_5⟩ := at_T34 HR0.out x9_2 p293 q293
                        have hw293_5 := hx293_5
                        have hw293_4 := hx293_4
                        have hw293_3 := hx293_3
                        have hw293_2 := hx293_2
                        have hw293_1 := hx293_1
                        have hw293_0 := hx293_0
                        obtain rfl : ad283 = ad293 := (by injection e293)
                        replace hx293_0 := (HB.out.cell (World.block_lt_of_cell? w _ hx293_0)).trans hx293_0
                        replace hx293_1 := (HB.out.cell (World.block_lt_of_cell? w _ hx293_1)).trans hx293_1
                        replace hx293_2 := (HB.out.cell (World.block_lt_of_cell? w _ hx293_2)).trans hx293_2
                        replace hx293_3 := (HB.out.cell (World.block_lt_of_cell? w _ hx293_3)).trans hx293_3
                        replace hx293_4 := (HB.out.cell (World.block_lt_of_cell? w _ hx293_4)).trans hx293_4
                        replace hx293_5 := (HB.out.cell (World.block_lt_of_cell? w _ hx293_5)).trans hx293_5
                        replace p293 := eq_true p293
                        replace q293 := eq_true q293
                        refine start_ (n := 19) (S := fun w' => w'.cell? ⟨gb275, 0, none⟩ = some (.string t268) ∧ w'.cell? ⟨gb275, 1, none⟩ = some (.int .i64 t269) ∧ w'.cell? ⟨gb275, 2, none⟩ = some (.int .i64 t270) ∧ w'.cell? ⟨gb275, 3, none⟩ = some (.int .i64 t271) ∧ w'.cell? ⟨gb275, 4, none⟩ = some (.int .i64 t272) ∧ w'.cell? ⟨gb275, 5, none⟩ = some (.string t273) ∧ w'.cell? ⟨gb281, 0, none⟩ = some (.int .i64 t276) ∧ w'.cell? ⟨gb281, 1, none⟩ = some (.int .i64 t277) ∧ w'.cell? ⟨gb281, 2, none⟩ = some (.int .i64 t278) ∧ w'.cell? ⟨gb281, 3, none⟩ = some (.string t279) ∧ w'.cell? (ad283.add ((x9_2).toNat * 6)) = some (.string ((rd_T34 l0 x9_2).f0)) ∧ w'.cell? ⟨(ad283.add ((x9_2).toNat * 6)).block, (ad283.add ((x9_2).toNat * 6)).off + 1, none⟩ = some (.int .i64 ((rd_T34 l0 x9_2).f1)) ∧ w'.cell? ⟨(ad283.add ((x9_2).toNat * 6)).block, (ad283.add ((x9_2).toNat * 6)).off + 2, none⟩ = some (.int .i64 ((rd_T34 l0 x9_2).f2.f0)) ∧ w'.cell? ⟨(ad283.add ((x9_2).toNat * 6)).block, (ad283.add ((x9_2).toNat * 6)).off + 3, none⟩ = some (.int .i64 ((rd_T34 l0 x9_2).f2.f1)) ∧ w'.cell? ⟨(ad283.add ((x9_2).toNat * 6)).block, (ad283.add ((x9_2).toNat * 6)).off + 4, none⟩ = some (.int .i64 ((rd_T34 l0 x9_2).f2.f2)) ∧ w'.cell? ⟨(ad283.add ((x9_2).toNat * 6)).block, (ad283.add ((x9_2).toNat * 6)).off + 5, none⟩ = some (.string ((rd_T34 l0 x9_2).f2.f3)) ∧ w'.cell? (ad283.add ((x9_2).toNat * 6)) = some (.string ((rd_T34 l0 x9_2).f0)) ∧ w'.cell? ⟨(ad283.add ((x9_2).toNat * 6)).block, (ad283.add ((x9_2).toNat * 6)).off + 1, none⟩ = some (.int .i64 ((rd_T34 l0 x9_2).f1)) ∧ w'.cell? ⟨(ad283.add ((x9_2).toNat * 6)).block, (ad283.add ((x9_2).toNat * 6)).off + 2, none⟩ = some (.int .i64 ((rd_T34 l0 x9_2).f2.f0)) ∧ w'.cell? ⟨(ad283.add ((x9_2).toNat * 6)).block, (ad283.add ((x9_2).toNat * 6)).off + 3, none⟩ = some (.int .i64 ((rd_T34 l0 x9_2).f2.f1)) ∧ w'.cell? ⟨(ad283.add ((x9_2).toNat * 6)).block, (ad283.add ((x9_2).toNat * 6)).off + 4, none⟩ = some (.int .i64 ((rd_T34 l0 x9_2).f2.f2)) ∧ w'.cell? ⟨(ad283.add ((x9_2).toNat * 6)).block, (ad283.add ((x9_2).toNat * 6)).off + 5, none⟩ = some (.string ((rd_T34 l0 x9_2).f2.f3))) (ds := []) #[false, false, false, false, false, false, false, false, false, false, false, false, false, false, false, false, false, false, false] (by kernel_rfl) rfl rfl ⟨(blk_cell BK275.out 0).trans rfl, (blk_cell BK275.out 1).trans rfl, (blk_cell BK275.out 2).trans rfl, (blk_cell BK275.out 3).trans rfl, (blk_cell BK275.out 4).trans rfl, (blk_cell BK275.out 5).trans rfl, (blk_cell BK281.out 0).trans rfl, (blk_cell BK281.out 1).trans rfl, (blk_cell BK281.out 2).trans rfl, (blk_cell BK281.out 3).trans rfl, ((HB.out.cell (World.block_lt_of_cell? w _ hw283_0)).trans hw283_0), ((HB.out.cell (World.block_lt_of_cell? w _ hw283_1)).trans hw283_1), ((HB.out.cell (World.block_lt_of_cell? w _ hw283_2)).trans hw283_2), ((HB.out.cell (World.block_lt_of_cell? w _ hw283_3)).trans hw283_3), ((HB.out.cell (World.block_lt_of_cell? w _ hw283_4)).trans hw283_4), ((HB.out.cell (World.block_lt_of_cell? w _ hw283_5)).trans hw283_5), ((HB.out.cell (World.block_lt_of_cell? w _ hw293_0)).trans hw293_0), ((HB.out.cell (World.block_lt_of_cell? w _ hw293_1)).trans hw293_1), ((HB.out.cell (World.block_lt_of_cell? w _ hw293_2)).trans hw293_2), ((HB.out.cell (World.block_lt_of_cell? w _ hw293_3)).trans hw293_3), ((HB.out.cell (World.block_lt_of_cell? w _ hw293_4)).trans hw293_4), ((HB.out.cell (World.block_lt_of_cell? w _ hw293_5)).trans hw293_5)⟩ (fun hHeld => ?_); refine with_tabW rollcalllaw11_BestOne.tab10 rollcalllaw11_BestOne.bits10 (fun HT_ HW_ => ?_)
                        generalize wr.drew = w26 at BK275 BK281 HB hx283_0 hx283_1 hx283_2 hx283_3 hx283_4 hx283_5 hx293_0 hx293_1 hx293_2 hx293_3 hx293_4 hx293_5 hHeld ⊢
                        refine pure_ (i := 0) (N := some 35) (v := ?_) (a' := ?_) #[true, false, false, false, false, false, false, false, false, false, false, false, false, false, false, false, false, false, false] rfl rfl (any_of HT_.out (by kernel_rfl)) (fun _ _ _ h => h) (Or.inl ⟨by rfl, ?_⟩) ?_ ?_
                        rotate_left
                        · intro w'
                          go_simp
                          with_reducible rfl
                        rotate_left
                        · simp only [Act.put, List.setIfInBounds_toArray, List.set_cons_zero, List.set_cons_succ, i64_w, i32_w]
                          rfl
                        refine pure_ (i := 1) (N := some 36) (v := ?_) (a' := ?_) #[true, true, false, false, false, false, false, false, false, false, false, false, false, false, false, false, false, false, false] rfl rfl (any_of HT_.out (by kernel_rfl)) (fun _ _ _ h => h) (Or.inl ⟨by rfl, ?_⟩) ?_ ?_
                        rotate_left
                        · intro w'
                          go_simp
                          with_reducible rfl
                        rotate_left
                        · simp only [Act.put, List.setIfInBounds_toArray, List.set_cons_zero, List.set_cons_succ, i64_w, i32_w]
                          rfl
                        refine pure_ (i := 2) (N := some 37) (v := ?_) (a' := ?_) #[true, true, true, false, false, false, false, false, false, false, false, false, false, false, false, false, false, false, false] rfl rfl (any_of HT_.out (by kernel_rfl)) (fun _ _ _ h => h) (Or.inl ⟨by rfl, ?_⟩) ?_ ?_
                        rotate_left
                        · intro w'
                          go_simp
                          with_reducible rfl
                        rotate_left
                        · simp only [Act.put, List.setIfInBounds_toArray, List.set_cons_zero, List.set_cons_succ, i64_w, i32_w]
                          rfl
                        refine take_ (i := 3) (N := some 38) (v := ?_) (a' := ?_) #[true, true, true, true, false, false, false, false, false, false, false, false, false, false, false, false, false, false, false] rfl rfl (take_ofW HT_.out HW_.out (by kernel_rfl)) (fun _ _ _ h => h) (Or.inl ⟨by rfl, ?_⟩) hHeld ?_ ?_
                        rotate_left
                        · rintro w' ⟨s0, s1, s2, s3, s4, s5, s6, s7, s8, s9, s10, s11, s12, s13, s14, s15, s16, s17, s18, s19, s20, s21⟩
                          go_simp
                          with_reducible rfl
                        rotate_left
                        · simp only [Act.put, List.setIfInBounds_toArray, List.set_cons_zero, List.set_cons_succ, i64_w, i32_w]
                          rfl
                        refine take_ (i := 5) (N := some 40) (v := ?_) (a' := ?_) #[true, true, true, true, false, true, false, false, false, false, false, false, false, false, false, false, false, false, false] rfl rfl (take_ofW HT_.out HW_.out (by kernel_rfl)) (fun _ _ _ h => h) (Or.inl ⟨by rfl, ?_⟩) hHeld ?_ ?_
                        rotate_left
                        · rintro w' ⟨s0, s1, s2, s3, s4, s5, s6, s7, s8, s9, s10, s11, s12, s13, s14, s15, s16, s17, s18, s19, s20, s21⟩
                          go_simp
                          with_reducible rfl
                        rotate_left
                        · simp only [Act.put, List.setIfInBounds_toArray, List.set_cons_zero, List.set_cons_succ, i64_w, i32_w]
                          rfl
                        refine one_ (i := 4) (N := some 39) #[true, true, true, true, true, true, false, false, false, false, false, false, false, false, false, false, false, false, false] rfl rfl (one_of HT_.out (by kernel_rfl)) (by decide) (fun K hK => ?_)
                        refine goes_ Try.func11 (by kernel_rfl) rfl #[.agg #[.string ((rd_T34 l0 x9_2).f0), .int .i64 ((rd_T34 l0 x9_2).f1), .int .i64 ((rd_T34 l0 x9_2).f2.f0), .int .i64 ((rd_T34 l0 x9_2).f2.f1), .int .i64 ((rd_T34 l0 x9_2).f2.f2), .string ((rd_T34 l0 x9_2).f2.f3)]] (by rfl) rfl rfl (by (try simp only [List.map_toArray, List.map_cons, List.map_nil]); first | done | rfl | (simp only [List.length_drop, List.length_take]; rfl)) ?_
                        with_reducible refine (best_Slot.calls ((rd_T34 l0 x9_2).f0) ((rd_T34 l0 x9_2).f1) ((rd_T34 l0 x9_2).f2.f0) ((rd_T34 l0 x9_2).f2.f1) ((rd_T34 l0 x9_2).f2.f2) ((rd_T34 l0 x9_2).f2.f3) t284 t285 t286 t287 _ A19.out).mono ?_
                        rintro e w27 ⟨rfl, hb⟩
                        refine ⟨_, rfl, ?_⟩
                        have n0_ := Aside0.mk (blk_below (g := gb275) (o := .cells #[.string t268, .int .i64 t269, .int .i64 t270, .int .i64 t271, .int .i64 t272, .string t273] 34 (0, 0)) (by (with_reducible repeat (first | refine blk_drewN ?_ _ | refine blk_drew ?_ | refine blk_alloc ?_ _)); exact BK275.out) hb)
                        have n1_ := Aside0.mk (blk_below (g := gb281) (o := .cells #[.int .i64 t276, .int .i64 t277, .int .i64 t278, .string t279] 24 (0, 0)) (by (with_reducible repeat (first | refine blk_drewN ?_ _ | refine blk_drew ?_ | refine blk_alloc ?_ _)); exact BK281.out) hb)
                        have n2_ := Aside0.mk (below_step (by repeat (first | (with_reducible first | exact HB.out | apply below_alloc | apply pw_below_drewN | apply below_drew1 | refine below_set ?_ GE275.out | refine below_set ?_ GE281.out) | exact HB.out)) hb)
                        clear BK275
                        clear BK281
                        clear HB
                        have BK275 := n0_
                        have BK281 := n1_
                        have HB := n2_
                        clear n0_ n1_ n2_
                        (try clear hb)
                        (try clear hb2)
                        (try clear hk)
                        (try clear hi)
                        refine hK.out _ _ ⟨(blk_cell BK275.out 0).trans rfl, (blk_cell BK275.out 1).trans rfl, (blk_cell BK275.out 2).trans rfl, (blk_cell BK275.out 3).trans rfl, (blk_cell BK275.out 4).trans rfl, (blk_cell BK275.out 5).trans rfl, (blk_cell BK281.out 0).trans rfl, (blk_cell BK281.out 1).trans rfl, (blk_cell BK281.out 2).trans rfl, (blk_cell BK281.out 3).trans rfl, ((HB.out.cell (World.block_lt_of_cell? w _ hw283_0)).trans hw283_0), ((HB.out.cell (World.block_lt_of_cell? w _ hw283_1)).trans hw283_1), ((HB.out.cell (World.block_lt_of_cell? w _ hw283_2)).trans hw283_2), ((HB.out.cell (World.block_lt_of_cell? w _ hw283_3)).trans hw283_3), ((HB.out.cell (World.block_lt_of_cell? w _ hw283_4)).trans hw283_4), ((HB.out.cell (World.block_lt_of_cell? w _ hw283_5)).trans hw283_5), ((HB.out.cell (World.block_lt_of_cell? w _ hw293_0)).trans hw293_0), ((HB.out.cell (World.block_lt_of_cell? w _ hw293_1)).trans hw293_1), ((HB.out.cell (World.block_lt_of_cell? w _ hw293_2)).trans hw293_2), ((HB.out.cell (World.block_lt_of_cell? w _ hw293_3)).trans hw293_3), ((HB.out.cell (World.block_lt_of_cell? w _ hw293_4)).trans hw293_4), ((HB.out.cell (World.block_lt_of_cell? w _ hw293_5)).trans hw293_5)⟩ (fun hHeld => ?_)
                        clear hK K
                        refine norm_ (a' := ?_) ?_ ?_
                        rotate_left
                        · show Act.put _ (some 39) _ = _
                          simp only [Act.put, List.setIfInBounds_toArray, List.set_cons_zero, List.set_cons_succ, i64_w, i32_w]
                          rfl
                        refine one_ (i := 6) (N := some 41) #[true, true, true, true, true, true, true, false, false, false, false, false, false, false, false, false, false, false, false] rfl rfl (one_of HT_.out (by kernel_rfl)) (by decide) (fun K hK => ?_)
                        refine goes_ Try.func11 (by kernel_rfl) rfl #[.agg #[.string t268, .int .i64 t269, .int .i64 t270, .int .i64 t271, .int .i64 t272, .string t273]] (by rfl) rfl rfl (by (try simp only [List.map_toArray, List.map_cons, List.map_nil]); first | done | rfl | (simp only [List.length_drop, List.length_take]; rfl)) ?_
                        with_reducible refine (best_Slot.calls t268 t269 t270 t271 t272 t273 t288 t289 t290 t291 _ A20.out).mono ?_
                        rintro e w28 ⟨rfl, hb⟩
                        refine ⟨_, rfl, ?_⟩
                        have n0_ := Aside0.mk (blk_below (g := gb275) (o := .cells #[.string t268, .int .i64 t269, .int .i64 t270, .int .i64 t271, .int .i64 t272, .string t273] 34 (0, 0)) (by (with_reducible repeat (first | refine blk_drewN ?_ _ | refine blk_drew ?_ | refine blk_alloc ?_ _)); exact BK275.out) hb)
                        have n1_ := Aside0.mk (blk_below (g := gb281) (o := .cells #[.int .i64 t276, .int .i64 t277, .int .i64 t278, .string t279] 24 (0, 0)) (by (with_reducible repeat (first | refine blk_drewN ?_ _ | refine blk_drew ?_ | refine blk_alloc ?_ _)); exact BK281.out) hb)
                        have n2_ := Aside0.mk (below_step (by repeat (first | (with_reducible first | exact HB.out | apply below_alloc | apply pw_below_drewN | apply below_drew1 | refine below_set ?_ GE275.out | refine below_set ?_ GE281.out) | exact HB.out)) hb)
                        clear BK275
                        clear BK281
                        clear HB
                        have BK275 := n0_
                        have BK281 := n1_
                        have HB := n2_
                        clear n0_ n1_ n2_
                        (try clear hb)
                        (try clear hb2)
                        (try clear hk)
                        (try clear hi)
                        refine hK.out _ _ ⟨(blk_cell BK275.out 0).trans rfl, (blk_cell BK275.out 1).trans rfl, (blk_cell BK275.out 2).trans rfl, (blk_cell BK275.out 3).trans rfl, (blk_cell BK275.out 4).trans rfl, (blk_cell BK275.out 5).trans rfl, (blk_cell BK281.out 0).trans rfl, (blk_cell BK281.out 1).trans rfl, (blk_cell BK281.out 2).trans rfl, (blk_cell BK281.out 3).trans rfl, ((HB.out.cell (World.block_lt_of_cell? w _ hw283_0)).trans hw283_0), ((HB.out.cell (World.block_lt_of_cell? w _ hw283_1)).trans hw283_1), ((HB.out.cell (World.block_lt_of_cell? w _ hw283_2)).trans hw283_2), ((HB.out.cell (World.block_lt_of_cell? w _ hw283_3)).trans hw283_3), ((HB.out.cell (World.block_lt_of_cell? w _ hw283_4)).trans hw283_4), ((HB.out.cell (World.block_lt_of_cell? w _ hw283_5)).trans hw283_5), ((HB.out.cell (World.block_lt_of_cell? w _ hw293_0)).trans hw293_0), ((HB.out.cell (World.block_lt_of_cell? w _ hw293_1)).trans hw293_1), ((HB.out.cell (World.block_lt_of_cell? w _ hw293_2)).trans hw293_2), ((HB.out.cell (World.block_lt_of_cell? w _ hw293_3)).trans hw293_3), ((HB.out.cell (World.block_lt_of_cell? w _ hw293_4)).trans hw293_4), ((HB.out.cell (World.block_lt_of_cell? w _ hw293_5)).trans hw293_5)⟩ (fun hHeld => ?_)
                        clear hK K
                        refine norm_ (a' := ?_) ?_ ?_
                        rotate_left
                        · show Act.put _ (some 41) _ = _
                          simp only [Act.put, List.setIfInBounds_toArray, List.set_cons_zero, List.set_cons_succ, i64_w, i32_w]
                          rfl
                        refine one_ (i := 7) (N := some 42) #[true, true, true, true, true, true, true, true, false, false, false, false, false, false, false, false, false, false, false] rfl rfl (one_of HT_.out (by kernel_rfl)) (by decide) (fun K hK => ?_)
                        refine goes_ Try.func21 (by kernel_rfl) rfl #[.agg #[.int .i64 t284, .int .i64 t285, .int .i64 t286, .int .i64 t287], .agg #[.int .i64 t288, .int .i64 t289, .int .i64 t290, .int .i64 t291]] (by rfl) rfl rfl (by (try simp only [List.map_toArray, List.map_cons, List.map_nil]); first | done | rfl | (simp only [List.length_drop, List.length_take]; rfl)) ?_
                        with_reducible refine (heap_Better.calls t284 t285 t286 t287 t288 t289 t290 t291 false _ A21.out).mono ?_
                        rintro e w29 ⟨rfl, hb⟩
                        refine ⟨_, rfl, ?_⟩
                        have n0_ := Aside0.mk (blk_below (g := gb275) (o := .cells #[.string t268, .int .i64 t269, .int .i64 t270, .int .i64 t271, .int .i64 t272, .string t273] 34 (0, 0)) (by (with_reducible repeat (first | refine blk_drewN ?_ _ | refine blk_drew ?_ | refine blk_alloc ?_ _)); exact BK275.out) hb)
                        have n1_ := Aside0.mk (blk_below (g := gb281) (o := .cells #[.int .i64 t276, .int .i64 t277, .int .i64 t278, .string t279] 24 (0, 0)) (by (with_reducible repeat (first | refine blk_drewN ?_ _ | refine blk_drew ?_ | refine blk_alloc ?_ _)); exact BK281.out) hb)
                        have n2_ := Aside0.mk (below_step (by repeat (first | (with_reducible first | exact HB.out | apply below_alloc | apply pw_below_drewN | apply below_drew1 | refine below_set ?_ GE275.out | refine below_set ?_ GE281.out) | exact HB.out)) hb)
                        clear BK275
                        clear BK281
                        clear HB
                        have BK275 := n0_
                        have BK281 := n1_
                        have HB := n2_
                        clear n0_ n1_ n2_
                        (try clear hb)
                        (try clear hb2)
                        (try clear hk)
                        (try clear hi)
                        refine hK.out _ _ ⟨(blk_cell BK275.out 0).trans rfl, (blk_cell BK275.out 1).trans rfl, (blk_cell BK275.out 2).trans rfl, (blk_cell BK275.out 3).trans rfl, (blk_cell BK275.out 4).trans rfl, (blk_cell BK275.out 5).trans rfl, (blk_cell BK281.out 0).trans rfl, (blk_cell BK281.out 1).trans rfl, (blk_cell BK281.out 2).trans rfl, (blk_cell BK281.out 3).trans rfl, ((HB.out.cell (World.block_lt_of_cell? w _ hw283_0)).trans hw283_0), ((HB.out.cell (World.block_lt_of_cell? w _ hw283_1)).trans hw283_1), ((HB.out.cell (World.block_lt_of_cell? w _ hw283_2)).trans hw283_2), ((HB.out.cell (World.block_lt_of_cell? w _ hw283_3)).trans hw283_3), ((HB.out.cell (World.block_lt_of_cell? w _ hw283_4)).trans hw283_4), ((HB.out.cell (World.block_lt_of_cell? w _ hw283_5)).trans hw283_5), ((HB.out.cell (World.block_lt_of_cell? w _ hw293_0)).trans hw293_0), ((HB.out.cell (World.block_lt_of_cell? w _ hw293_1)).trans hw293_1), ((HB.out.cell (World.block_lt_of_cell? w _ hw293_2)).trans hw293_2), ((HB.out.cell (World.block_lt_of_cell? w _ hw293_3)).trans hw293_3), ((HB.out.cell (World.block_lt_of_cell? w _ hw293_4)).trans hw293_4), ((HB.out.cell (World.block_lt_of_cell? w _ hw293_5)).trans hw293_5)⟩ (fun hHeld => ?_)
                        clear hK K
                        refine norm_ (a' := ?_) ?_ ?_
                        rotate_left
                        · show Act.put _ (some 42) _ = _
                          simp only [Act.put, List.setIfInBounds_toArray, List.set_cons_zero, List.set_cons_succ, i64_w, i32_w]
                          rfl
                        refine pure_ (i := 8) (N := some 43) (v := ?_) (a' := ?_) #[true, true, true, true, true, true, true, true, true, false, false, false, false, false, false, false, false, false, false] rfl rfl (any_of HT_.out (by kernel_rfl)) (fun _ _ _ h => h) (Or.inl ⟨by rfl, ?_⟩) ?_ ?_
                        rotate_left
                        · intro w'
                          go_simp
                          with_reducible rfl
                        rotate_left
                        · simp only [Act.put, List.setIfInBounds_toArray, List.set_cons_zero, List.set_cons_succ, i64_w, i32_w]
                          rfl
                        refine pure_ (i := 9) (N := some 44) (v := ?_) (a' := ?_) #[true, true, true, true, true, true, true, true, true, true, false, false, false, false, false, false, false, false, false] rfl rfl (any_of HT_.out (by kernel_rfl)) (fun _ _ _ h => h) (Or.inl ⟨by rfl, ?_⟩) ?_ ?_
                        rotate_left
                        · intro w'
                          go_simp
                          with_reducible rfl
                        rotate_left
                        · simp only [Act.put, List.setIfInBounds_toArray, List.set_cons_zero, List.set_cons_succ, i64_w, i32_w]
                          rfl
                        refine pure_ (i := 10) (N := some 45) (v := ?_) (a' := ?_) #[true, true, true, true, true, true, true, true, true, true, true, false, false, false, false, false, false, false, false] rfl rfl (any_of HT_.out (by kernel_rfl)) (fun _ _ _ h => h) (Or.inl ⟨by rfl, ?_⟩) ?_ ?_
                        rotate_left
                        · intro w'
                          go_simp
                          with_reducible rfl
                        rotate_left
                        · simp only [Act.put, List.setIfInBounds_toArray, List.set_cons_zero, List.set_cons_succ, i64_w, i32_w]
                          rfl
                        refine pure_ (i := 11) (N := some 46) (v := ?_) (a' := ?_) #[true, true, true, true, true, true, true, true, true, true, true, true, false, false, false, false, false, false, false] rfl rfl (any_of HT_.out (by kernel_rfl)) (fun _ _ _ h => h) (Or.inl ⟨by rfl, ?_⟩) ?_ ?_
                        rotate_left
                        · intro w'
                          go_simp
                          with_reducible rfl
                        rotate_left
                        · simp only [Act.put, List.setIfInBounds_toArray, List.set_cons_zero, List.set_cons_succ, i64_w, i32_w]
                          rfl
                        refine pure_ (i := 12) (N := some 47) (v := ?_) (a' := ?_) #[true, true, true, true, true, true, true, true, true, true, true, true, true, false, false, false, false, false, false] rfl rfl (any_of HT_.out (by kernel_rfl)) (fun _ _ _ h => h) (Or.inl ⟨by rfl, ?_⟩) ?_ ?_
                        rotate_left
                        · intro w'
                          go_simp
                          with_reducible rfl
                        rotate_left
                        · simp only [Act.put, List.setIfInBounds_toArray, List.set_cons_zero, List.set_cons_succ, i64_w, i32_w]
                          rfl
                        refine pure_ (i := 13) (N := some 48) (v := ?_) (a' := ?_) #[true, true, true, true, true, true, true, true, true, true, true, true, true, true, false, false, false, false, false] rfl rfl (any_of HT_.out (by kernel_rfl)) (fun _ _ _ h => h) (Or.inl ⟨by rfl, ?_⟩) ?_ ?_
                        rotate_left
                        · intro w'
                          go_simp
                          with_reducible rfl
                        rotate_left
                        · simp only [Act.put, List.setIfInBounds_toArray, List.set_cons_zero, List.set_cons_succ, i64_w, i32_w]
                          rfl
                        refine pure_ (i := 15) (N := some 50) (v := ?_) (a' := ?_) #[true, true, true, true, true, true, true, true, true, true, true, true, true, true, false, true, false, false, false] rfl rfl (any_of HT_.out (by kernel_rfl)) (fun _ _ _ h => h) (Or.inl ⟨by rfl, ?_⟩) ?_ ?_
                        rotate_left
                        · intro w'
                          go_simp
                          with_reducible rfl
                        rotate_left
                        · simp only [Act.put, List.setIfInBounds_toArray, List.set_cons_zero, List.set_cons_succ, i64_w, i32_w]
                          rfl
                        refine take_ (i := 14) (N := some 49) (v := ?_) (a' := ?_) #[true, true, true, true, true, true, true, true, true, true, true, true, true, true, true, true, false, false, false] rfl rfl (take_ofW HT_.out HW_.out (by kernel_rfl)) (fun _ _ _ h => h) (Or.inl ⟨by rfl, ?_⟩) hHeld ?_ ?_
                        rotate_left
                        · rintro w' ⟨s0, s1, s2, s3, s4, s5, s6, s7, s8, s9, s10, s11, s12, s13, s14, s15, s16, s17, s18, s19, s20, s21⟩
                          go_simp
                          with_reducible rfl
                        rotate_left
                        · simp only [Act.put, List.setIfInBounds_toArray, List.set_cons_zero, List.set_cons_succ, i64_w, i32_w]
                          rfl
                        refine take_ (i := 16) (N := some 51) (v := ?_) (a' := ?_) #[true, true, true, true, true, true, true, true, true, true, true, true, true, true, true, true, true, false, false] rfl rfl (take_ofW HT_.out HW_.out (by kernel_rfl)) (fun _ _ _ h => h) (Or.inl ⟨by rfl, ?_⟩) hHeld ?_ ?_
                        rotate_left
                        · rintro w' ⟨s0, s1, s2, s3, s4, s5, s6, s7, s8, s9, s10, s11, s12, s13, s14, s15, s16, s17, s18, s19, s20, s21⟩
                          go_simp
                          with_reducible rfl
                        rotate_left
                        · simp only [Act.put, List.setIfInBounds_toArray, List.set_cons_zero, List.set_cons_succ, i64_w, i32_w]
                          rfl
                        refine pure_ (i := 17) (N := some 52) (v := ?_) (a' := ?_) #[true, true, true, true, true, true, true, true, true, true, true, true, true, true, true, true, true, true, false] rfl rfl (any_of HT_.out (by kernel_rfl)) (fun _ _ _ h => h) (Or.inl ⟨by rfl, ?_⟩) ?_ ?_
                        rotate_left
                        · intro w'
                          go_simp
                          with_reducible rfl
                        rotate_left
                        · simp only [Act.put, List.setIfInBounds_toArray, List.set_cons_zero, List.set_cons_succ, i64_w, i32_w]
                          rfl
                        refine pure_ (i := 18) (N := some 53) (v := ?_) (a' := ?_) #[true, true, true, true, true, true, true, true, true, true, true, true, true, true, true, true, true, true, true] rfl rfl (any_of HT_.out (by kernel_rfl)) (fun _ _ _ h => h) (Or.inl ⟨by rfl, ?_⟩) ?_ ?_
                        rotate_left
                        · intro w'
                          go_simp
                          with_reducible rfl
                        rotate_left
                        · simp only [Act.put, List.setIfInBounds_toArray, List.set_cons_zero, List.set_cons_succ, i64_w, i32_w]
                          rfl
                        refine done_ (done_of HT_.out (by kernel_rfl)) ?_
                        try go_wp2
                        have n0_ := Aside0.mk (blk_drew BK275.out)
                        have n1_ := Aside0.mk (blk_drew BK281.out)
                        have n2_ := Aside0.mk (below_drew1 HB.out)
                        clear BK275
                        clear BK281
                        clear HB
                        have BK275 := n0_
                        have BK281 := n1_
                        have HB := n2_
                        clear n0_ n1_ n2_
                        refine start_ (n := 10) (S := fun w' => True) (ds := []) #[false, false, false, false, false, false, false, false, false, false] (by kernel_rfl) rfl rfl trivial (fun hHeld => ?_); refine with_tabW rollcalllaw11_BestOne.tab12 rollcalllaw11_BestOne.bits12 (fun HT_ HW_ => ?_)
                        generalize w29.drew = w30 at BK275 BK281 HB hHeld ⊢
                        refine pure_ (i := 0) (N := some 54) (v := ?_) (a' := ?_) #[true, false, false, false, false, false, false, false, false, false] rfl rfl (any_of HT_.out (by kernel_rfl)) (fun _ _ _ h => h) (Or.inl ⟨by rfl, ?_⟩) ?_ ?_
                        rotate_left
                        · intro w'
                          go_simp
                          with_reducible rfl
                        rotate_left
                        · simp only [Act.put, List.setIfInBounds_toArray, List.set_cons_zero, List.set_cons_succ, i64_w, i32_w]
                          rfl
                        refine pure_ (i := 1) (N := some 55) (v := ?_) (a' := ?_) #[true, true, false, false, false, false, false, false, false, false] rfl rfl (any_of HT_.out (by kernel_rfl)) (fun _ _ _ h => h) (Or.inl ⟨by rfl, ?_⟩) ?_ ?_
                        rotate_left
                        · intro w'
                          go_simp
                          with_reducible rfl
                        rotate_left
                        · simp only [Act.put, List.setIfInBounds_toArray, List.set_cons_zero, List.set_cons_succ, i64_w, i32_w]
                          rfl
                        refine pure_ (i := 2) (N := some 56) (v := undef) (a' := ?_) #[true, true, true, false, false, false, false, false, false, false] rfl rfl (any_of HT_.out (by kernel_rfl)) (fun _ _ _ h => h) (Or.inr ⟨by rfl, rfl⟩) ?_ ?_
                        rotate_left
                        · simp only [Act.put, List.setIfInBounds_toArray, List.set_cons_zero, List.set_cons_succ, i64_w, i32_w]
                          rfl
                        refine pure_ (i := 3) (N := some 57) (v := undef) (a' := ?_) #[true, true, true, true, false, false, false, false, false, false] rfl rfl (any_of HT_.out (by kernel_rfl)) (fun _ _ _ h => h) (Or.inr ⟨by rfl, rfl⟩) ?_ ?_
                        rotate_left
                        · simp only [Act.put, List.setIfInBounds_toArray, List.set_cons_zero, List.set_cons_succ, i64_w, i32_w]
                          rfl
                        refine pure_ (i := 4) (N := some 58) (v := undef) (a' := ?_) #[true, true, true, true, true, false, false, false, false, false] rfl rfl (any_of HT_.out (by kernel_rfl)) (fun _ _ _ h => h) (Or.inr ⟨by rfl, rfl⟩) ?_ ?_
                        rotate_left
                        · simp only [Act.put, List.setIfInBounds_toArray, List.set_cons_zero, List.set_cons_succ, i64_w, i32_w]
                          rfl
                        refine pure_ (i := 5) (N := some 59) (v := undef) (a' := ?_) #[true, true, true, true, true, true, false, false, false, false] rfl rfl (any_of HT_.out (by kernel_rfl)) (fun _ _ _ h => h) (Or.inr ⟨by rfl, rfl⟩) ?_ ?_
                        rotate_left
                        · simp only [Act.put, List.setIfInBounds_toArray, List.set_cons_zero, List.set_cons_succ, i64_w, i32_w]
                          rfl
                        refine pure_ (i := 6) (N := some 60) (v := undef) (a' := ?_) #[true, true, true, true, true, true, true, false, false, false] rfl rfl (any_of HT_.out (by kernel_rfl)) (fun _ _ _ h => h) (Or.inr ⟨by rfl, rfl⟩) ?_ ?_
                        rotate_left
                        · simp only [Act.put, List.setIfInBounds_toArray, List.set_cons_zero, List.set_cons_succ, i64_w, i32_w]
                          rfl
                        refine pure_ (i := 7) (N := some 61) (v := undef) (a' := ?_) #[true, true, true, true, true, true, true, true, false, false] rfl rfl (any_of HT_.out (by kernel_rfl)) (fun _ _ _ h => h) (Or.inr ⟨by rfl, rfl⟩) ?_ ?_
                        rotate_left
                        · simp only [Act.put, List.setIfInBounds_toArray, List.set_cons_zero, List.set_cons_succ, i64_w, i32_w]
                          rfl
                        refine pure_ (i := 8) (N := some 62) (v := ?_) (a' := ?_) #[true, true, true, true, true, true, true, true, true, false] rfl rfl (any_of HT_.out (by kernel_rfl)) (fun _ _ _ h => h) (Or.inl ⟨by rfl, ?_⟩) ?_ ?_
                        rotate_left
                        · intro w'
                          go_simp
                          with_reducible rfl
                        rotate_left
                        · simp only [Act.put, List.setIfInBounds_toArray, List.set_cons_zero, List.set_cons_succ, i64_w, i32_w]
                          rfl
                        refine pure_ (i := 9) (N := some 7) (v := ?_) (a' := ?_) #[true, true, true, true, true, true, true, true, true, true] rfl rfl (any_of HT_.out (by kernel_rfl)) (fun _ _ _ h => h) (Or.inl ⟨by rfl, ?_⟩) ?_ ?_
                        rotate_left
                        · intro w'
                          go_simp
                          with_reducible rfl
                        rotate_left
                        · simp only [Act.put, List.setIfInBounds_toArray, List.set_cons_zero, List.set_cons_succ, i64_w, i32_w]
                          rfl
                        refine done_ (done_of HT_.out (by kernel_rfl)) ?_
                        try go_wp2
                        have n0_ := Aside0.mk (blk_drew BK275.out)
                        have n1_ := Aside0.mk (blk_drew BK281.out)
                        have n2_ := Aside0.mk (below_drew1 HB.out)
                        clear BK275
                        clear BK281
                        clear HB
                        have BK275 := n0_
                        have BK281 := n1_
                        have HB := n2_
                        clear n0_ n1_ n2_
                        refine start_ (n := 13) (S := fun w' => True) (ds := []) #[false, false, false, false, false, false, false, false, false, false, false, false, false] (by kernel_rfl) rfl rfl trivial (fun hHeld => ?_); refine with_tabW rollcalllaw11_BestOne.tab13 rollcalllaw11_BestOne.bits13 (fun HT_ HW_ => ?_)
                        generalize w30.drew = w31 at BK275 BK281 HB hHeld ⊢
                        refine pure_ (i := 0) (N := some 63) (v := ?_) (a' := ?_) #[true, false, false, false, false, false, false, false, false, false, false, false, false] rfl rfl (any_of HT_.out (by kernel_rfl)) (fun _ _ _ h => h) (Or.inl ⟨by rfl, ?_⟩) ?_ ?_
                        rotate_left
                        · intro w'
                          go_simp
                          with_reducible rfl
                        rotate_left
                        · simp only [Act.put, List.setIfInBounds_toArray, List.set_cons_zero, List.set_cons_succ, i64_w, i32_w]
                          rfl
                        refine pure_ (i := 1) (N := some 64) (v := ?_) (a' := ?_) #[true, true, false, false, false, false, false, false, false, false, false, false, false] rfl rfl (any_of HT_.out (by kernel_rfl)) (fun _ _ _ h => h) (Or.inl ⟨by rfl, ?_⟩) ?_ ?_
                        rotate_left
                        · intro w'
                          go_simp
                          with_reducible rfl
                        rotate_left
                        · simp only [Act.put, List.setIfInBounds_toArray, List.set_cons_zero, List.set_cons_succ, i64_w, i32_w]
                          rfl
                        refine pure_ (i := 2) (N := some 65) (v := undef) (a' := ?_) #[true, true, true, false, false, false, false, false, false, false, false, false, false] rfl rfl (any_of HT_.out (by kernel_rfl)) (fun _ _ _ h => h) (Or.inr ⟨by rfl, rfl⟩) ?_ ?_
                        rotate_left
                        · simp only [Act.put, List.setIfInBounds_toArray, List.set_cons_zero, List.set_cons_succ, i64_w, i32_w]
                          rfl
                        refine pure_ (i := 3) (N := some 66) (v := undef) (a' := ?_) #[true, true, true, true, false, false, false, false, false, false, false, false, false] rfl rfl (any_of HT_.out (by kernel_rfl)) (fun _ _ _ h => h) (Or.inr ⟨by rfl, rfl⟩) ?_ ?_
                        rotate_left
                        · simp only [Act.put, List.setIfInBounds_toArray, List.set_cons_zero, List.set_cons_succ, i64_w, i32_w]
                          rfl
                        refine pure_ (i := 4) (N := some 67) (v := undef) (a' := ?_) #[true, true, true, true, true, false, false, false, false, false, false, false, false] rfl rfl (any_of HT_.out (by kernel_rfl)) (fun _ _ _ h => h) (Or.inr ⟨by rfl, rfl⟩) ?_ ?_
                        rotate_left
                        · simp only [Act.put, List.setIfInBounds_toArray, List.set_cons_zero, List.set_cons_succ, i64_w, i32_w]
                          rfl
                        refine pure_ (i := 5) (N := some 68) (v := undef) (a' := ?_) #[true, true, true, true, true, true, false, false, false, false, false, false, false] rfl rfl (any_of HT_.out (by kernel_rfl)) (fun _ _ _ h => h) (Or.inr ⟨by rfl, rfl⟩) ?_ ?_
                        rotate_left
                        · simp only [Act.put, List.setIfInBounds_toArray, List.set_cons_zero, List.set_cons_succ, i64_w, i32_w]
                          rfl
                        refine pure_ (i := 6) (N := some 69) (v := undef) (a' := ?_) #[true, true, true, true, true, true, true, false, false, false, false, false, false] rfl rfl (any_of HT_.out (by kernel_rfl)) (fun _ _ _ h => h) (Or.inr ⟨by rfl, rfl⟩) ?_ ?_
                        rotate_left
                        · simp only [Act.put, List.setIfInBounds_toArray, List.set_cons_zero, List.set_cons_succ, i64_w, i32_w]
                          rfl
                        refine pure_ (i := 7) (N := some 70) (v := undef) (a' := ?_) #[true, true, true, true, true, true, true, true, false, false, false, false, false] rfl rfl (any_of HT_.out (by kernel_rfl)) (fun _ _ _ h => h) (Or.inr ⟨by rfl, rfl⟩) ?_ ?_
                        rotate_left
                        · simp only [Act.put, List.setIfInBounds_toArray, List.set_cons_zero, List.set_cons_succ, i64_w, i32_w]
                          rfl
                        refine pure_ (i := 8) (N := some 71) (v := undef) (a' := ?_) #[true, true, true, true, true, true, true, true, true, false, false, false, false] rfl rfl (any_of HT_.out (by kernel_rfl)) (fun _ _ _ h => h) (Or.inr ⟨by rfl, rfl⟩) ?_ ?_
                        rotate_left
                        · simp only [Act.put, List.setIfInBounds_toArray, List.set_cons_zero, List.set_cons_succ, i64_w, i32_w]
                          rfl
                        refine pure_ (i := 9) (N := some 72) (v := undef) (a' := ?_) #[true, true, true, true, true, true, true, true, true, true, false, false, false] rfl rfl (any_of HT_.out (by kernel_rfl)) (fun _ _ _ h => h) (Or.inr ⟨by rfl, rfl⟩) ?_ ?_
                        rotate_left
                        · simp only [Act.put, List.setIfInBounds_toArray, List.set_cons_zero, List.set_cons_succ, i64_w, i32_w]
                          rfl
                        refine pure_ (i := 10) (N := some 73) (v := undef) (a' := ?_) #[true, true, true, true, true, true, true, true, true, true, true, false, false] rfl rfl (any_of HT_.out (by kernel_rfl)) (fun _ _ _ h => h) (Or.inr ⟨by rfl, rfl⟩) ?_ ?_
                        rotate_left
                        · simp only [Act.put, List.setIfInBounds_toArray, List.set_cons_zero, List.set_cons_succ, i64_w, i32_w]
                          rfl
                        refine pure_ (i := 11) (N := some 74) (v := ?_) (a' := ?_) #[true, true, true, true, true, true, true, true, true, true, true, true, false] rfl rfl (any_of HT_.out (by kernel_rfl)) (fun _ _ _ h => h) (Or.inl ⟨by rfl, ?_⟩) ?_ ?_
                        rotate_left
                        · intro w'
                          go_simp
                          with_reducible rfl
                        rotate_left
                        · simp only [Act.put, List.setIfInBounds_toArray, List.set_cons_zero, List.set_cons_succ, i64_w, i32_w]
                          rfl
                        refine pure_ (i := 12) (N := some 8) (v := ?_) (a' := ?_) #[true, true, true, true, true, true, true, true, true, true, true, true, true] rfl rfl (any_of HT_.out (by kernel_rfl)) (fun _ _ _ h => h) (Or.inl ⟨by rfl, ?_⟩) ?_ ?_
                        rotate_left
                        · intro w'
                          go_simp
                          with_reducible rfl
                        rotate_left
                        · simp only [Act.put, List.setIfInBounds_toArray, List.set_cons_zero, List.set_cons_succ, i64_w, i32_w]
                          rfl
                        refine done_ (done_of HT_.out (by kernel_rfl)) ?_
                        try go_wp2
                        go_roundg k2
                        case measure => have := HJ1.out; have := HK2.out; omega
                        case rel => exact ⟨(true), (true), (wrap64 (x9_2 + 1)), (by first | rfl | (simp; done) | (simp [*]; done)), (by first | rfl | (simp; done) | (simp [*]; done)), (by first | rfl | (simp; done) | (simp [*]; done)), H', ⟨by have := HJ1.out; have := HK2.out; omega⟩, ⟨by (with_reducible repeat (first | refine blk_drewN ?_ _ | refine blk_drew ?_ | refine blk_alloc ?_ _)); exact BK275.out⟩, ⟨by (with_reducible repeat (first | refine blk_drewN ?_ _ | refine blk_drew ?_ | refine blk_alloc ?_ _)); exact BK281.out⟩, ⟨by repeat (first | (with_reducible first | exact HB.out | apply below_alloc | apply pw_below_drewN | apply below_drew1 | refine below_set ?_ GE275.out | refine below_set ?_ GE281.out) | exact HB.out)⟩⟩
                      · replace c25 := Bool.eq_false_iff.mpr c25
                        subst c25
                        have H1 : (rollcalllaw11_BestOne.l0 k2 l0 t274 t280 true (((rd_T34 l0 x9_2).f2.f0) == t276) (wrap64 (x9_2 + 1)) t268 t269 t270 t271 t272 t273 t276 t277 t278 t279) = some r := by rw [if_neg (show ¬ (false = true) by decide)] at H; exact H
                        clear H
                        have H := H1
                        clear H1
                        have H' := Aside0.mk H
                        clear H
                        try go_wp2
                        have n0_ := Aside0.mk (blk_drew BK275.out)
                        have n1_ := Aside0.mk (blk_drew BK281.out)
                        have n2_ := Aside0.mk (below_drew1 HB.out)
                        clear BK275
                        clear BK281
                        clear HB
                        have BK275 := n0_
                        have BK281 := n1_
                        have HB := n2_
                        clear n0_ n1_ n2_
                        have p283 : 0 ≤ (x9_2 : Int) := of_decide_eq_true (by first | (with_reducible assumption) | assumption)
                        have q283 : x9_2 < (l0.length : Int) := of_decide_eq_true (by first | (with_reducible assumption) | assumption)
                        obtain ⟨ad283, e283, hx283_0, hx283_1, hx283_2, hx283_3, hx283_4, hx283_5⟩ := at_T34 HR0.out x9_2 p283 q283
                        have hw283_5 := hx283_5
                        have hw283_4 := hx283_4
                        have hw283_3 := hx283_3
                        have hw283_2 := hx283_2
                        have hw283_1 := hx283_1
                        have hw283_0 := hx283_0
                        cases e283
                        replace hx283_0 := (HB.out.cell (World.block_lt_of_cell? w _ hx283_0)).trans hx283_0
                        replace hx283_1 := (HB.out.cell (World.block_lt_of_cell? w _ hx283_1)).trans hx283_1
                        replace hx283_2 := (HB.out.cell (World.block_lt_of_cell? w _ hx283_2)).trans hx283_2
                        replace hx283_3 := (HB.out.cell (World.block_lt_of_cell? w _ hx283_3)).trans hx283_3
                        replace hx283_4 := (HB.out.cell (World.block_lt_of_cell? w _ hx283_4)).trans hx283_4
                        replace hx283_5 := (HB.out.cell (World.block_lt_of_cell? w _ hx283_5)).trans hx283_5
                        replace p283 := eq_true p283
                        replace q283 := eq_true q283
                        have p293 : 0 ≤ (x9_2 : Int) := of_decide_eq_true (by first | (with_reducible assumption) | assumption)
                        have q293 : x9_2 < (l0.length : Int) := of_decide_eq_true (by first | (with_reducible assumption) | assumption)
                        obtain ⟨ad293, e293, hx293_0, hx293_1, hx293_2, hx293_3, hx293_4, hx293_5⟩ := at_T34 HR0.out x9_2 p293 q293
                        have hw293_5 := hx293_5
                        have hw293_4 := hx293_4
                        have hw293_3 := hx293_3
                        have hw293_2 := hx293_2
                        have hw293_1 := hx293_1
                        have hw293_0 := hx293_0
                        obtain rfl : ad283 = ad293 := (by injection e293)
                        replace hx293_0 := (HB.out.cell (World.block_lt_of_cell? w _ hx293_0)).trans hx293_0
                        replace hx293_1 := (HB.out.cell (World.block_lt_of_cell? w _ hx293_1)).trans hx293_1
                        replace hx293_2 := (HB.out.cell (World.block_lt_of_cell? w _ hx293_2)).trans hx293_2
                        replace hx293_3 := (HB.out.cell (World.block_lt_of_cell? w _ hx293_3)).trans hx293_3
                        replace hx293_4 := (HB.out.cell (World.block_lt_of_cell? w _ hx293_4)).trans hx293_4
                        replace hx293_5 := (HB.out.cell (World.block_lt_of_cell? w _ hx293_5)).trans hx293_5
                        replace p293 := eq_true p293
                        replace q293 := eq_true q293
                        refine start_ (n := 19) (S := fun w' => w'.cell? ⟨gb275, 0, none⟩ = some (.string t268) ∧ w'.cell? ⟨gb275, 1, none⟩ = some (.int .i64 t269) ∧ w'.cell? ⟨gb275, 2, none⟩ = some (.int .i64 t270) ∧ w'.cell? ⟨gb275, 3, none⟩ = some (.int .i64 t271) ∧ w'.cell? ⟨gb275, 4, none⟩ = some (.int .i64 t272) ∧ w'.cell? ⟨gb275, 5, none⟩ = some (.string t273) ∧ w'.cell? ⟨gb281, 0, none⟩ = some (.int .i64 t276) ∧ w'.cell? ⟨gb281, 1, none⟩ = some (.int .i64 t277) ∧ w'.cell? ⟨gb281, 2, none⟩ = some (.int .i64 t278) ∧ w'.cell? ⟨gb281, 3, none⟩ = some (.string t279) ∧ w'.cell? (ad283.add ((x9_2).toNat * 6)) = some (.string ((rd_T34 l0 x9_2).f0)) ∧ w'.cell? ⟨(ad283.add ((x9_2).toNat * 6)).block, (ad283.add ((x9_2).toNat * 6)).off + 1, none⟩ = some (.int .i64 ((rd_T34 l0 x9_2).f1)) ∧ w'.cell? ⟨(ad283.add ((x9_2).toNat * 6)).block, (ad283.add ((x9_2).toNat * 6)).off + 2, none⟩ = some (.int .i64 ((rd_T34 l0 x9_2).f2.f0)) ∧ w'.cell? ⟨(ad283.add ((x9_2).toNat * 6)).block, (ad283.add ((x9_2).toNat * 6)).off + 3, none⟩ = some (.int .i64 ((rd_T34 l0 x9_2).f2.f1)) ∧ w'.cell? ⟨(ad283.add ((x9_2).toNat * 6)).block, (ad283.add ((x9_2).toNat * 6)).off + 4, none⟩ = some (.int .i64 ((rd_T34 l0 x9_2).f2.f2)) ∧ w'.cell? ⟨(ad283.add ((x9_2).toNat * 6)).block, (ad283.add ((x9_2).toNat * 6)).off + 5, none⟩ = some (.string ((rd_T34 l0 x9_2).f2.f3)) ∧ w'.cell? (ad283.add ((x9_2).toNat * 6)) = some (.string ((rd_T34 l0 x9_2).f0)) ∧ w'.cell? ⟨(ad283.add ((x9_2).toNat * 6)).block, (ad283.add ((x9_2).toNat * 6)).off + 1, none⟩ = some (.int .i64 ((rd_T34 l0 x9_2).f1)) ∧ w'.cell? ⟨(ad283.add ((x9_2).toNat * 6)).block, (ad283.add ((x9_2).toNat * 6)).off + 2, none⟩ = some (.int .i64 ((rd_T34 l0 x9_2).f2.f0)) ∧ w'.cell? ⟨(ad283.add ((x9_2).toNat * 6)).block, (ad283.add ((x9_2).toNat * 6)).off + 3, none⟩ = some (.int .i64 ((rd_T34 l0 x9_2).f2.f1)) ∧ w'.cell? ⟨(ad283.add ((x9_2).toNat * 6)).block, (ad283.add ((x9_2).toNat * 6)).off + 4, none⟩ = some (.int .i64 ((rd_T34 l0 x9_2).f2.f2)) ∧ w'.cell? ⟨(ad283.add ((x9_2).toNat * 6)).block, (ad283.add ((x9_2).toNat * 6)).off + 5, none⟩ = some (.string ((rd_T34 l0 x9_2).f2.f3))) (ds := []) #[false, false, false, false, false, false, false, false, false, false, false, false, false, false, false, false, false, false, false] (by kernel_rfl) rfl rfl ⟨(blk_cell BK275.out 0).trans rfl, (blk_cell BK275.out 1).trans rfl, (blk_cell BK275.out 2).trans rfl, (blk_cell BK275.out 3).trans rfl, (blk_cell BK275.out 4).trans rfl, (blk_cell BK275.out 5).trans rfl, (blk_cell BK281.out 0).trans rfl, (blk_cell BK281.out 1).trans rfl, (blk_cell BK281.out 2).trans rfl, (blk_cell BK281.out 3).trans rfl, ((HB.out.cell (World.block_lt_of_cell? w _ hw283_0)).trans hw283_0), ((HB.out.cell (World.block_lt_of_cell? w _ hw283_1)).trans hw283_1), ((HB.out.cell (World.block_lt_of_cell? w _ hw283_2)).trans hw283_2), ((HB.out.cell (World.block_lt_of_cell? w _ hw283_3)).trans hw283_3), ((HB.out.cell (World.block_lt_of_cell? w _ hw283_4)).trans hw283_4), ((HB.out.cell (World.block_lt_of_cell? w _ hw283_5)).trans hw283_5), ((HB.out.cell (World.block_lt_of_cell? w _ hw293_0)).trans hw293_0), ((HB.out.cell (World.block_lt_of_cell? w _ hw293_1)).trans hw293_1), ((HB.out.cell (World.block_lt_of_cell? w _ hw293_2)).trans hw293_2), ((HB.out.cell (World.block_lt_of_cell? w _ hw293_3)).trans hw293_3), ((HB.out.cell (World.block_lt_of_cell? w _ hw293_4)).trans hw293_4), ((HB.out.cell (World.block_lt_of_cell? w _ hw293_5)).trans hw293_5)⟩ (fun hHeld => ?_); refine with_tabW rollcalllaw11_BestOne.tab10 rollcalllaw11_BestOne.bits10 (fun HT_ HW_ => ?_)
                        generalize wr.drew = w32 at BK275 BK281 HB hx283_0 hx283_1 hx283_2 hx283_3 hx283_4 hx283_5 hx293_0 hx293_1 hx293_2 hx293_3 hx293_4 hx293_5 hHeld ⊢
                        refine pure_ (i := 0) (N := some 35) (v := ?_) (a' := ?_) #[true, false, false, false, false, false, false, false, false, false, false, false, false, false, false, false, false, false, false] rfl rfl (any_of HT_.out (by kernel_rfl)) (fun _ _ _ h => h) (Or.inl ⟨by rfl, ?_⟩) ?_ ?_
                        rotate_left
                        · intro w'
                          go_simp
                          with_reducible rfl
                        rotate_left
                        · simp only [Act.put, List.setIfInBounds_toArray, List.set_cons_zero, List.set_cons_succ, i64_w, i32_w]
                          rfl
                        refine pure_ (i := 1) (N := some 36) (v := ?_) (a' := ?_) #[true, true, false, false, false, false, false, false, false, false, false, false, false, false, false, false, false, false, false] rfl rfl (any_of HT_.out (by kernel_rfl)) (fun _ _ _ h => h) (Or.inl ⟨by rfl, ?_⟩) ?_ ?_
                        rotate_left
                        · intro w'
                          go_simp
                          with_reducible rfl
                        rotate_left
                        · simp only [Act.put, List.setIfInBounds_toArray, List.set_cons_zero, List.set_cons_succ, i64_w, i32_w]
                          rfl
                        refine pure_ (i := 2) (N := some 37) (v := ?_) (a' := ?_) #[true, true, true, false, false, false, false, false, false, false, false, false, false, false, false, false, false, false, false] rfl rfl (any_of HT_.out (by kernel_rfl)) (fun _ _ _ h => h) (Or.inl ⟨by rfl, ?_⟩) ?_ ?_
                        rotate_left
                        · intro w'
                          go_simp
                          with_reducible rfl
                        rotate_left
                        · simp only [Act.put, List.setIfInBounds_toArray, List.set_cons_zero, List.set_cons_succ, i64_w, i32_w]
                          rfl
                        refine take_ (i := 3) (N := some 38) (v := ?_) (a' := ?_) #[true, true, true, true, false, false, false, false, false, false, false, false, false, false, false, false, false, false, false] rfl rfl (take_ofW HT_.out HW_.out (by kernel_rfl)) (fun _ _ _ h => h) (Or.inl ⟨by rfl, ?_⟩) hHeld ?_ ?_
                        rotate_left
                        · rintro w' ⟨s0, s1, s2, s3, s4, s5, s6, s7, s8, s9, s10, s11, s12, s13, s14, s15, s16, s17, s18, s19, s20, s21⟩
                          go_simp
                          with_reducible rfl
                        rotate_left
                        · simp only [Act.put, List.setIfInBounds_toArray, List.set_cons_zero, List.set_cons_succ, i64_w, i32_w]
                          rfl
                        refine take_ (i := 5) (N := some 40) (v := ?_) (a' := ?_) #[true, true, true, true, false, true, false, false, false, false, false, false, false, false, false, false, false, false, false] rfl rfl (take_ofW HT_.out HW_.out (by kernel_rfl)) (fun _ _ _ h => h) (Or.inl ⟨by rfl, ?_⟩) hHeld ?_ ?_
                        rotate_left
                        · rintro w' ⟨s0, s1, s2, s3, s4, s5, s6, s7, s8, s9, s10, s11, s12, s13, s14, s15, s16, s17, s18, s19, s20, s21⟩
                          go_simp
                          with_reducible rfl
                        rotate_left
                        · simp only [Act.put, List.setIfInBounds_toArray, List.set_cons_zero, List.set_cons_succ, i64_w, i32_w]
                          rfl
                        refine one_ (i := 4) (N := some 39) #[true, true, true, true, true, true, false, false, false, false, false, false, false, false, false, false, false, false, false] rfl rfl (one_of HT_.out (by kernel_rfl)) (by decide) (fun K hK => ?_)
                        refine goes_ Try.func11 (by kernel_rfl) rfl #[.agg #[.string ((rd_T34 l0 x9_2).f0), .int .i64 ((rd_T34 l0 x9_2).f1), .int .i64 ((rd_T34 l0 x9_2).f2.f0), .int .i64 ((rd_T34 l0 x9_2).f2.f1), .int .i64 ((rd_T34 l0 x9_2).f2.f2), .string ((rd_T34 l0 x9_2).f2.f3)]] (by rfl) rfl rfl (by (try simp only [List.map_toArray, List.map_cons, List.map_nil]); first | done | rfl | (simp only [List.length_drop, List.length_take]; rfl)) ?_
                        with_reducible refine (best_Slot.calls ((rd_T34 l0 x9_2).f0) ((rd_T34 l0 x9_2).f1) ((rd_T34 l0 x9_2).f2.f0) ((rd_T34 l0 x9_2).f2.f1) ((rd_T34 l0 x9_2).f2.f2) ((rd_T34 l0 x9_2).f2.f3) t284 t285 t286 t287 _ A19.out).mono ?_
                        rintro e w33 ⟨rfl, hb⟩
                        refine ⟨_, rfl, ?_⟩
                        have n0_ := Aside0.mk (blk_below (g := gb275) (o := .cells #[.string t268, .int .i64 t269, .int .i64 t270, .int .i64 t271, .int .i64 t272, .string t273] 34 (0, 0)) (by (with_reducible repeat (first | refine blk_drewN ?_ _ | refine blk_drew ?_ | refine blk_alloc ?_ _)); exact BK275.out) hb)
                        have n1_ := Aside0.mk (blk_below (g := gb281) (o := .cells #[.int .i64 t276, .int .i64 t277, .int .i64 t278, .string t279] 24 (0, 0)) (by (with_reducible repeat (first | refine blk_drewN ?_ _ | refine blk_drew ?_ | refine blk_alloc ?_ _)); exact BK281.out) hb)
                        have n2_ := Aside0.mk (below_step (by repeat (first | (with_reducible first | exact HB.out | apply below_alloc | apply pw_below_drewN | apply below_drew1 | refine below_set ?_ GE275.out | refine below_set ?_ GE281.out) | exact HB.out)) hb)
                        clear BK275
                        clear BK281
                        clear HB
                        have BK275 := n0_
                        have BK281 := n1_
                        have HB := n2_
                        clear n0_ n1_ n2_
                        (try clear hb)
                        (try clear hb2)
                        (try clear hk)
                        (try clear hi)
                        refine hK.out _ _ ⟨(blk_cell BK275.out 0).trans rfl, (blk_cell BK275.out 1).trans rfl, (blk_cell BK275.out 2).trans rfl, (blk_cell BK275.out 3).trans rfl, (blk_cell BK275.out 4).trans rfl, (blk_cell BK275.out 5).trans rfl, (blk_cell BK281.out 0).trans rfl, (blk_cell BK281.out 1).trans rfl, (blk_cell BK281.out 2).trans rfl, (blk_cell BK281.out 3).trans rfl, ((HB.out.cell (World.block_lt_of_cell? w _ hw283_0)).trans hw283_0), ((HB.out.cell (World.block_lt_of_cell? w _ hw283_1)).trans hw283_1), ((HB.out.cell (World.block_lt_of_cell? w _ hw283_2)).trans hw283_2), ((HB.out.cell (World.block_lt_of_cell? w _ hw283_3)).trans hw283_3), ((HB.out.cell (World.block_lt_of_cell? w _ hw283_4)).trans hw283_4), ((HB.out.cell (World.block_lt_of_cell? w _ hw283_5)).trans hw283_5), ((HB.out.cell (World.block_lt_of_cell? w _ hw293_0)).trans hw293_0), ((HB.out.cell (World.block_lt_of_cell? w _ hw293_1)).trans hw293_1), ((HB.out.cell (World.block_lt_of_cell? w _ hw293_2)).trans hw293_2), ((HB.out.cell (World.block_lt_of_cell? w _ hw293_3)).trans hw293_3), ((HB.out.cell (World.block_lt_of_cell? w _ hw293_4)).trans hw293_4), ((HB.out.cell (World.block_lt_of_cell? w _ hw293_5)).trans hw293_5)⟩ (fun hHeld => ?_)
                        clear hK K
                        refine norm_ (a' := ?_) ?_ ?_
                        rotate_left
                        · show Act.put _ (some 39) _ = _
                          simp only [Act.put, List.setIfInBounds_toArray, List.set_cons_zero, List.set_cons_succ, i64_w, i32_w]
                          rfl
                        refine one_ (i := 6) (N := some 41) #[true, true, true, true, true, true, true, false, false, false, false, false, false, false, false, false, false, false, false] rfl rfl (one_of HT_.out (by kernel_rfl)) (by decide) (fun K hK => ?_)
                        refine goes_ Try.func11 (by kernel_rfl) rfl #[.agg #[.string t268, .int .i64 t269, .int .i64 t270, .int .i64 t271, .int .i64 t272, .string t273]] (by rfl) rfl rfl (by (try simp only [List.map_toArray, List.map_cons, List.map_nil]); first | done | rfl | (simp only [List.length_drop, List.length_take]; rfl)) ?_
                        with_reducible refine (best_Slot.calls t268 t269 t270 t271 t272 t273 t288 t289 t290 t291 _ A20.out).mono ?_
                        rintro e w34 ⟨rfl, hb⟩
                        refine ⟨_, rfl, ?_⟩
                        have n0_ := Aside0.mk (blk_below (g := gb275) (o := .cells #[.string t268, .int .i64 t269, .int .i64 t270, .int .i64 t271, .int .i64 t272, .string t273] 34 (0, 0)) (by (with_reducible repeat (first | refine blk_drewN ?_ _ | refine blk_drew ?_ | refine blk_alloc ?_ _)); exact BK275.out) hb)
                        have n1_ := Aside0.mk (blk_below (g := gb281) (o := .cells #[.int .i64 t276, .int .i64 t277, .int .i64 t278, .string t279] 24 (0, 0)) (by (with_reducible repeat (first | refine blk_drewN ?_ _ | refine blk_drew ?_ | refine blk_alloc ?_ _)); exact BK281.out) hb)
                        have n2_ := Aside0.mk (below_step (by repeat (first | (with_reducible first | exact HB.out | apply below_alloc | apply pw_below_drewN | apply below_drew1 | refine below_set ?_ GE275.out | refine below_set ?_ GE281.out) | exact HB.out)) hb)
                        clear BK275
                        clear BK281
                        clear HB
                        have BK275 := n0_
                        have BK281 := n1_
                        have HB := n2_
                        clear n0_ n1_ n2_
                        (try clear hb)
                        (try clear hb2)
                        (try clear hk)
                        (try clear hi)
                        refine hK.out _ _ ⟨(blk_cell BK275.out 0).trans rfl, (blk_cell BK275.out 1).trans rfl, (blk_cell BK275.out 2).trans rfl, (blk_cell BK275.out 3).trans rfl, (blk_cell BK275.out 4).trans rfl, (blk_cell BK275.out 5).trans rfl, (blk_cell BK281.out 0).trans rfl, (blk_cell BK281.out 1).trans rfl, (blk_cell BK281.out 2).trans rfl, (blk_cell BK281.out 3).trans rfl, ((HB.out.cell (World.block_lt_of_cell? w _ hw283_0)).trans hw283_0), ((HB.out.cell (World.block_lt_of_cell? w _ hw283_1)).trans hw283_1), ((HB.out.cell (World.block_lt_of_cell? w _ hw283_2)).trans hw283_2), ((HB.out.cell (World.block_lt_of_cell? w _ hw283_3)).trans hw283_3), ((HB.out.cell (World.block_lt_of_cell? w _ hw283_4)).trans hw283_4), ((HB.out.cell (World.block_lt_of_cell? w _ hw283_5)).trans hw283_5), ((HB.out.cell (World.block_lt_of_cell? w _ hw293_0)).trans hw293_0), ((HB.out.cell (World.block_lt_of_cell? w _ hw293_1)).trans hw293_1), ((HB.out.cell (World.block_lt_of_cell? w _ hw293_2)).trans hw293_2), ((HB.out.cell (World.block_lt_of_cell? w _ hw293_3)).trans hw293_3), ((HB.out.cell (World.block_lt_of_cell? w _ hw293_4)).trans hw293_4), ((HB.out.cell (World.block_lt_of_cell? w _ hw293_5)).trans hw293_5)⟩ (fun hHeld => ?_)
                        clear hK K
                        refine norm_ (a' := ?_) ?_ ?_
                        rotate_left
                        · show Act.put _ (some 41) _ = _
                          simp only [Act.put, List.setIfInBounds_toArray, List.set_cons_zero, List.set_cons_succ, i64_w, i32_w]
                          rfl
                        refine one_ (i := 7) (N := some 42) #[true, true, true, true, true, true, true, true, false, false, false, false, false, false, false, false, false, false, false] rfl rfl (one_of HT_.out (by kernel_rfl)) (by decide) (fun K hK => ?_)
                        refine goes_ Try.func21 (by kernel_rfl) rfl #[.agg #[.int .i64 t284, .int .i64 t285, .int .i64 t286, .int .i64 t287], .agg #[.int .i64 t288, .int .i64 t289, .int .i64 t290, .int .i64 t291]] (by rfl) rfl rfl (by (try simp only [List.map_toArray, List.map_cons, List.map_nil]); first | done | rfl | (simp only [List.length_drop, List.length_take]; rfl)) ?_
                        with_reducible refine (heap_Better.calls t284 t285 t286 t287 t288 t289 t290 t291 false _ A21.out).mono ?_
                        rintro e w35 ⟨rfl, hb⟩
                        refine ⟨_, rfl, ?_⟩
                        have n0_ := Aside0.mk (blk_below (g := gb275) (o := .cells #[.string t268, .int .i64 t269, .int .i64 t270, .int .i64 t271, .int .i64 t272, .string t273] 34 (0, 0)) (by (with_reducible repeat (first | refine blk_drewN ?_ _ | refine blk_drew ?_ | refine blk_alloc ?_ _)); exact BK275.out) hb)
                        have n1_ := Aside0.mk (blk_below (g := gb281) (o := .cells #[.int .i64 t276, .int .i64 t277, .int .i64 t278, .string t279] 24 (0, 0)) (by (with_reducible repeat (first | refine blk_drewN ?_ _ | refine blk_drew ?_ | refine blk_alloc ?_ _)); exact BK281.out) hb)
                        have n2_ := Aside0.mk (below_step (by repeat (first | (with_reducible first | exact HB.out | apply below_alloc | apply pw_below_drewN | apply below_drew1 | refine below_set ?_ GE275.out | refine below_set ?_ GE281.out) | exact HB.out)) hb)
                        clear BK275
                        clear BK281
                        clear HB
                        have BK275 := n0_
                        have BK281 := n1_
                        have HB := n2_
                        clear n0_ n1_ n2_
                        (try clear hb)
                        (try clear hb2)
                        (try clear hk)
                        (try clear hi)
                        refine hK.out _ _ ⟨(blk_cell BK275.out 0).trans rfl, (blk_cell BK275.out 1).trans rfl, (blk_cell BK275.out 2).trans rfl, (blk_cell BK275.out 3).trans rfl, (blk_cell BK275.out 4).trans rfl, (blk_cell BK275.out 5).trans rfl, (blk_cell BK281.out 0).trans rfl, (blk_cell BK281.out 1).trans rfl, (blk_cell BK281.out 2).trans rfl, (blk_cell BK281.out 3).trans rfl, ((HB.out.cell (World.block_lt_of_cell? w _ hw283_0)).trans hw283_0), ((HB.out.cell (World.block_lt_of_cell? w _ hw283_1)).trans hw283_1), ((HB.out.cell (World.block_lt_of_cell? w _ hw283_2)).trans hw283_2), ((HB.out.cell (World.block_lt_of_cell? w _ hw283_3)).trans hw283_3), ((HB.out.cell (World.block_lt_of_cell? w _ hw283_4)).trans hw283_4), ((HB.out.cell (World.block_lt_of_cell? w _ hw283_5)).trans hw283_5), ((HB.out.cell (World.block_lt_of_cell? w _ hw293_0)).trans hw293_0), ((HB.out.cell (World.block_lt_of_cell? w _ hw293_1)).trans hw293_1), ((HB.out.cell (World.block_lt_of_cell? w _ hw293_2)).trans hw293_2), ((HB.out.cell (World.block_lt_of_cell? w _ hw293_3)).trans hw293_3), ((HB.out.cell (World.block_lt_of_cell? w _ hw293_4)).trans hw293_4), ((HB.out.cell (World.block_lt_of_cell? w _ hw293_5)).trans hw293_5)⟩ (fun hHeld => ?_)
                        clear hK K
                        refine norm_ (a' := ?_) ?_ ?_
                        rotate_left
                        · show Act.put _ (some 42) _ = _
                          simp only [Act.put, List.setIfInBounds_toArray, List.set_cons_zero, List.set_cons_succ, i64_w, i32_w]
                          rfl
                        refine pure_ (i := 8) (N := some 43) (v := ?_) (a' := ?_) #[true, true, true, true, true, true, true, true, true, false, false, false, false, false, false, false, false, false, false] rfl rfl (any_of HT_.out (by kernel_rfl)) (fun _ _ _ h => h) (Or.inl ⟨by rfl, ?_⟩) ?_ ?_
                        rotate_left
                        · intro w'
                          go_simp
                          with_reducible rfl
                        rotate_left
                        · simp only [Act.put, List.setIfInBounds_toArray, List.set_cons_zero, List.set_cons_succ, i64_w, i32_w]
                          rfl
                        refine pure_ (i := 9) (N := some 44) (v := ?_) (a' := ?_) #[true, true, true, true, true, true, true, true, true, true, false, false, false, false, false, false, false, false, false] rfl rfl (any_of HT_.out (by kernel_rfl)) (fun _ _ _ h => h) (Or.inl ⟨by rfl, ?_⟩) ?_ ?_
                        rotate_left
                        · intro w'
                          go_simp
                          with_reducible rfl
                        rotate_left
                        · simp only [Act.put, List.setIfInBounds_toArray, List.set_cons_zero, List.set_cons_succ, i64_w, i32_w]
                          rfl
                        refine pure_ (i := 10) (N := some 45) (v := ?_) (a' := ?_) #[true, true, true, true, true, true, true, true, true, true, true, false, false, false, false, false, false, false, false] rfl rfl (any_of HT_.out (by kernel_rfl)) (fun _ _ _ h => h) (Or.inl ⟨by rfl, ?_⟩) ?_ ?_
                        rotate_left
                        · intro w'
                          go_simp
                          with_reducible rfl
                        rotate_left
                        · simp only [Act.put, List.setIfInBounds_toArray, List.set_cons_zero, List.set_cons_succ, i64_w, i32_w]
                          rfl
                        refine pure_ (i := 11) (N := some 46) (v := ?_) (a' := ?_) #[true, true, true, true, true, true, true, true, true, true, true, true, false, false, false, false, false, false, false] rfl rfl (any_of HT_.out (by kernel_rfl)) (fun _ _ _ h => h) (Or.inl ⟨by rfl, ?_⟩) ?_ ?_
                        rotate_left
                        · intro w'
                          go_simp
                          with_reducible rfl
                        rotate_left
                        · simp only [Act.put, List.setIfInBounds_toArray, List.set_cons_zero, List.set_cons_succ, i64_w, i32_w]
                          rfl
                        refine pure_ (i := 12) (N := some 47) (v := ?_) (a' := ?_) #[true, true, true, true, true, true, true, true, true, true, true, true, true, false, false, false, false, false, false] rfl rfl (any_of HT_.out (by kernel_rfl)) (fun _ _ _ h => h) (Or.inl ⟨by rfl, ?_⟩) ?_ ?_
                        rotate_left
                        · intro w'
                          go_simp
                          with_reducible rfl
                        rotate_left
                        · simp only [Act.put, List.setIfInBounds_toArray, List.set_cons_zero, List.set_cons_succ, i64_w, i32_w]
                          rfl
                        refine pure_ (i := 13) (N := some 48) (v := ?_) (a' := ?_) #[true, true, true, true, true, true, true, true, true, true, true, true, true, true, false, false, false, false, false] rfl rfl (any_of HT_.out (by kernel_rfl)) (fun _ _ _ h => h) (Or.inl ⟨by rfl, ?_⟩) ?_ ?_
                        rotate_left
                        · intro w'
                          go_simp
                          with_reducible rfl
                        rotate_left
                        · simp only [Act.put, List.setIfInBounds_toArray, List.set_cons_zero, List.set_cons_succ, i64_w, i32_w]
                          rfl
                        refine pure_ (i := 15) (N := some 50) (v := ?_) (a' := ?_) #[true, true, true, true, true, true, true, true, true, true, true, true, true, true, false, true, false, false, false] rfl rfl (any_of HT_.out (by kernel_rfl)) (fun _ _ _ h => h) (Or.inl ⟨by rfl, ?_⟩) ?_ ?_
                        rotate_left
                        · intro w'
                          go_simp
                          with_reducible rfl
                        rotate_left
                        · simp only [Act.put, List.setIfInBounds_toArray, List.set_cons_zero, List.set_cons_succ, i64_w, i32_w]
                          rfl
                        refine take_ (i := 14) (N := some 49) (v := ?_) (a' := ?_) #[true, true, true, true, true, true, true, true, true, true, true, true, true, true, true, true, false, false, false] rfl rfl (take_ofW HT_.out HW_.out (by kernel_rfl)) (fun _ _ _ h => h) (Or.inl ⟨by rfl, ?_⟩) hHeld ?_ ?_
                        rotate_left
                        · rintro w' ⟨s0, s1, s2, s3, s4, s5, s6, s7, s8, s9, s10, s11, s12, s13, s14, s15, s16, s17, s18, s19, s20, s21⟩
                          go_simp
                          with_reducible rfl
                        rotate_left
                        · simp only [Act.put, List.setIfInBounds_toArray, List.set_cons_zero, List.set_cons_succ, i64_w, i32_w]
                          rfl
                        refine take_ (i := 16) (N := some 51) (v := ?_) (a' := ?_) #[true, true, true, true, true, true, true, true, true, true, true, true, true, true, true, true, true, false, false] rfl rfl (take_ofW HT_.out HW_.out (by kernel_rfl)) (fun _ _ _ h => h) (Or.inl ⟨by rfl, ?_⟩) hHeld ?_ ?_
                        rotate_left
                        · rintro w' ⟨s0, s1, s2, s3, s4, s5, s6, s7, s8, s9, s10, s11, s12, s13, s14, s15, s16, s17, s18, s19, s20, s21⟩
                          go_simp
                          with_reducible rfl
                        rotate_left
                        · simp only [Act.put, List.setIfInBounds_toArray, List.set_cons_zero, List.set_cons_succ, i64_w, i32_w]
                          rfl
                        refine pure_ (i := 17) (N := some 52) (v := ?_) (a' := ?_) #[true, true, true, true, true, true, true, true, true, true, true, true, true, true, true, true, true, true, false] rfl rfl (any_of HT_.out (by kernel_rfl)) (fun _ _ _ h => h) (Or.inl ⟨by rfl, ?_⟩) ?_ ?_
                        rotate_left
                        · intro w'
                          go_simp
                          with_reducible rfl
                        rotate_left
                        · simp only [Act.put, List.setIfInBounds_toArray, List.set_cons_zero, List.set_cons_succ, i64_w, i32_w]
                          rfl
                        refine pure_ (i := 18) (N := some 53) (v := ?_) (a' := ?_) #[true, true, true, true, true, true, true, true, true, true, true, true, true, true, true, true, true, true, true] rfl rfl (any_of HT_.out (by kernel_rfl)) (fun _ _ _ h => h) (Or.inl ⟨by rfl, ?_⟩) ?_ ?_
                        rotate_left
                        · intro w'
                          go_simp
                          with_reducible rfl
                        rotate_left
                        · simp only [Act.put, List.setIfInBounds_toArray, List.set_cons_zero, List.set_cons_succ, i64_w, i32_w]
                          rfl
                        refine done_ (done_of HT_.out (by kernel_rfl)) ?_
                        try go_wp2
                        have n0_ := Aside0.mk (blk_drew BK275.out)
                        have n1_ := Aside0.mk (blk_drew BK281.out)
                        have n2_ := Aside0.mk (below_drew1 HB.out)
                        clear BK275
                        clear BK281
                        clear HB
                        have BK275 := n0_
                        have BK281 := n1_
                        have HB := n2_
                        clear n0_ n1_ n2_
                        refine start_ (n := 10) (S := fun w' => True) (ds := []) #[false, false, false, false, false, false, false, false, false, false] (by kernel_rfl) rfl rfl trivial (fun hHeld => ?_); refine with_tabW rollcalllaw11_BestOne.tab12 rollcalllaw11_BestOne.bits12 (fun HT_ HW_ => ?_)
                        generalize w35.drew = w36 at BK275 BK281 HB hHeld ⊢
                        refine pure_ (i := 0) (N := some 54) (v := ?_) (a' := ?_) #[true, false, false, false, false, false, false, false, false, false] rfl rfl (any_of HT_.out (by kernel_rfl)) (fun _ _ _ h => h) (Or.inl ⟨by rfl, ?_⟩) ?_ ?_
                        rotate_left
                        · intro w'
                          go_simp
                          with_reducible rfl
                        rotate_left
                        · simp only [Act.put, List.setIfInBounds_toArray, List.set_cons_zero, List.set_cons_succ, i64_w, i32_w]
                          rfl
                        refine pure_ (i := 1) (N := some 55) (v := ?_) (a' := ?_) #[true, true, false, false, false, false, false, false, false, false] rfl rfl (any_of HT_.out (by kernel_rfl)) (fun _ _ _ h => h) (Or.inl ⟨by rfl, ?_⟩) ?_ ?_
                        rotate_left
                        · intro w'
                          go_simp
                          with_reducible rfl
                        rotate_left
                        · simp only [Act.put, List.setIfInBounds_toArray, List.set_cons_zero, List.set_cons_succ, i64_w, i32_w]
                          rfl
                        refine pure_ (i := 2) (N := some 56) (v := undef) (a' := ?_) #[true, true, true, false, false, false, false, false, false, false] rfl rfl (any_of HT_.out (by kernel_rfl)) (fun _ _ _ h => h) (Or.inr ⟨by rfl, rfl⟩) ?_ ?_
                        rotate_left
                        · simp only [Act.put, List.setIfInBounds_toArray, List.set_cons_zero, List.set_cons_succ, i64_w, i32_w]
                          rfl
                        refine pure_ (i := 3) (N := some 57) (v := undef) (a' := ?_) #[true, true, true, true, false, false, false, false, false, false] rfl rfl (any_of HT_.out (by kernel_rfl)) (fun _ _ _ h => h) (Or.inr ⟨by rfl, rfl⟩) ?_ ?_
                        rotate_left
                        · simp only [Act.put, List.setIfInBounds_toArray, List.set_cons_zero, List.set_cons_succ, i64_w, i32_w]
                          rfl
                        refine pure_ (i := 4) (N := some 58) (v := undef) (a' := ?_) #[true, true, true, true, true, false, false, false, false, false] rfl rfl (any_of HT_.out (by kernel_rfl)) (fun _ _ _ h => h) (Or.inr ⟨by rfl, rfl⟩) ?_ ?_
                        rotate_left
                        · simp only [Act.put, List.setIfInBounds_toArray, List.set_cons_zero, List.set_cons_succ, i64_w, i32_w]
                          rfl
                        refine pure_ (i := 5) (N := some 59) (v := undef) (a' := ?_) #[true, true, true, true, true, true, false, false, false, false] rfl rfl (any_of HT_.out (by kernel_rfl)) (fun _ _ _ h => h) (Or.inr ⟨by rfl, rfl⟩) ?_ ?_
                        rotate_left
                        · simp only [Act.put, List.setIfInBounds_toArray, List.set_cons_zero, List.set_cons_succ, i64_w, i32_w]
                          rfl
                        refine pure_ (i := 6) (N := some 60) (v := undef) (a' := ?_) #[true, true, true, true, true, true, true, false, false, false] rfl rfl (any_of HT_.out (by kernel_rfl)) (fun _ _ _ h => h) (Or.inr ⟨by rfl, rfl⟩) ?_ ?_
                        rotate_left
                        · simp only [Act.put, List.setIfInBounds_toArray, List.set_cons_zero, List.set_cons_succ, i64_w, i32_w]
                          rfl
                        refine pure_ (i := 7) (N := some 61) (v := undef) (a' := ?_) #[true, true, true, true, true, true, true, true, false, false] rfl rfl (any_of HT_.out (by kernel_rfl)) (fun _ _ _ h => h) (Or.inr ⟨by rfl, rfl⟩) ?_ ?_
                        rotate_left
                        · simp only [Act.put, List.setIfInBounds_toArray, List.set_cons_zero, List.set_cons_succ, i64_w, i32_w]
                          rfl
                        refine pure_ (i := 8) (N := some 62) (v := ?_) (a' := ?_) #[true, true, true, true, true, true, true, true, true, false] rfl rfl (any_of HT_.out (by kernel_rfl)) (fun _ _ _ h => h) (Or.inl ⟨by rfl, ?_⟩) ?_ ?_
                        rotate_left
                        · intro w'
                          go_simp
                          with_reducible rfl
                        rotate_left
                        · simp only [Act.put, List.setIfInBounds_toArray, List.set_cons_zero, List.set_cons_succ, i64_w, i32_w]
                          rfl
                        refine pure_ (i := 9) (N := some 7) (v := ?_) (a' := ?_) #[true, true, true, true, true, true, true, true, true, true] rfl rfl (any_of HT_.out (by kernel_rfl)) (fun _ _ _ h => h) (Or.inl ⟨by rfl, ?_⟩) ?_ ?_
                        rotate_left
                        · intro w'
                          go_simp
                          with_reducible rfl
                        rotate_left
                        · simp only [Act.put, List.setIfInBounds_toArray, List.set_cons_zero, List.set_cons_succ, i64_w, i32_w]
                          rfl
                        refine done_ (done_of HT_.out (by kernel_rfl)) ?_
                        try go_wp2
                        have n0_ := Aside0.mk (blk_drew BK275.out)
                        have n1_ := Aside0.mk (blk_drew BK281.out)
                        have n2_ := Aside0.mk (below_drew1 HB.out)
                        clear BK275
                        clear BK281
                        clear HB
                        have BK275 := n0_
                        have BK281 := n1_
                        have HB := n2_
                        clear n0_ n1_ n2_
                        have p294 : 0 ≤ (x9_2 : Int) := of_decide_eq_true (by first | (with_reducible assumption) | assumption)
                        have q294 : x9_2 < (l0.length : Int) := of_decide_eq_true (by first | (with_reducible assumption) | assumption)
                        obtain ⟨ad294, e294, hx294_0, hx294_1, hx294_2, hx294_3, hx294_4, hx294_5⟩ := at_T34 HR0.out x9_2 p294 q294
                        have hw294_5 := hx294_5
                        have hw294_4 := hx294_4
                        have hw294_3 := hx294_3
                        have hw294_2 := hx294_2
                        have hw294_1 := hx294_1
                        have hw294_0 := hx294_0
                        obtain rfl : ad283 = ad294 := (by injection e294)
                        replace hx294_0 := (HB.out.cell (World.block_lt_of_cell? w _ hx294_0)).trans hx294_0
                        replace hx294_1 := (HB.out.cell (World.block_lt_of_cell? w _ hx294_1)).trans hx294_1
                        replace hx294_2 := (HB.out.cell (World.block_lt_of_cell? w _ hx294_2)).trans hx294_2
                        replace hx294_3 := (HB.out.cell (World.block_lt_of_cell? w _ hx294_3)).trans hx294_3
                        replace hx294_4 := (HB.out.cell (World.block_lt_of_cell? w _ hx294_4)).trans hx294_4
                        replace hx294_5 := (HB.out.cell (World.block_lt_of_cell? w _ hx294_5)).trans hx294_5
                        replace p294 := eq_true p294
                        replace q294 := eq_true q294
                        refine start_ (n := 13) (S := fun w' => w'.cell? ⟨gb281, 0, none⟩ = some (.int .i64 t276) ∧ w'.cell? ⟨gb281, 1, none⟩ = some (.int .i64 t277) ∧ w'.cell? ⟨gb281, 2, none⟩ = some (.int .i64 t278) ∧ w'.cell? ⟨gb281, 3, none⟩ = some (.string t279) ∧ w'.cell? (ad283.add ((x9_2).toNat * 6)) = some (.string ((rd_T34 l0 x9_2).f0)) ∧ w'.cell? ⟨(ad283.add ((x9_2).toNat * 6)).block, (ad283.add ((x9_2).toNat * 6)).off + 1, none⟩ = some (.int .i64 ((rd_T34 l0 x9_2).f1)) ∧ w'.cell? ⟨(ad283.add ((x9_2).toNat * 6)).block, (ad283.add ((x9_2).toNat * 6)).off + 2, none⟩ = some (.int .i64 ((rd_T34 l0 x9_2).f2.f0)) ∧ w'.cell? ⟨(ad283.add ((x9_2).toNat * 6)).block, (ad283.add ((x9_2).toNat * 6)).off + 3, none⟩ = some (.int .i64 ((rd_T34 l0 x9_2).f2.f1)) ∧ w'.cell? ⟨(ad283.add ((x9_2).toNat * 6)).block, (ad283.add ((x9_2).toNat * 6)).off + 4, none⟩ = some (.int .i64 ((rd_T34 l0 x9_2).f2.f2)) ∧ w'.cell? ⟨(ad283.add ((x9_2).toNat * 6)).block, (ad283.add ((x9_2).toNat * 6)).off + 5, none⟩ = some (.string ((rd_T34 l0 x9_2).f2.f3))) (ds := []) #[false, false, false, false, false, false, false, false, false, false, false, false, false] (by kernel_rfl) rfl rfl ⟨(blk_cell BK281.out 0).trans rfl, (blk_cell BK281.out 1).trans rfl, (blk_cell BK281.out 2).trans rfl, (blk_cell BK281.out 3).trans rfl, ((HB.out.cell (World.block_lt_of_cell? w _ hw294_0)).trans hw294_0), ((HB.out.cell (World.block_lt_of_cell? w _ hw294_1)).trans hw294_1), ((HB.out.cell (World.block_lt_of_cell? w _ hw294_2)).trans hw294_2), ((HB.out.cell (World.block_lt_of_cell? w _ hw294_3)).trans hw294_3), ((HB.out.cell (World.block_lt_of_cell? w _ hw294_4)).trans hw294_4), ((HB.out.cell (World.block_lt_of_cell? w _ hw294_5)).trans hw294_5)⟩ (fun hHeld => ?_); refine with_tabW rollcalllaw11_BestOne.tab13 rollcalllaw11_BestOne.bits13 (fun HT_ HW_ => ?_)
                        generalize w36.drew = w37 at BK275 BK281 HB hx294_0 hx294_1 hx294_2 hx294_3 hx294_4 hx294_5 hHeld ⊢
                        refine pure_ (i := 0) (N := some 63) (v := ?_) (a' := ?_) #[true, false, false, false, false, false, false, false, false, false, false, false, false] rfl rfl (any_of HT_.out (by kernel_rfl)) (fun _ _ _ h => h) (Or.inl ⟨by rfl, ?_⟩) ?_ ?_
                        rotate_left
                        · intro w'
                          go_simp
                          with_reducible rfl
                        rotate_left
                        · simp only [Act.put, List.setIfInBounds_toArray, List.set_cons_zero, List.set_cons_succ, i64_w, i32_w]
                          rfl
                        refine pure_ (i := 1) (N := some 64) (v := ?_) (a' := ?_) #[true, true, false, false, false, false, false, false, false, false, false, false, false] rfl rfl (any_of HT_.out (by kernel_rfl)) (fun _ _ _ h => h) (Or.inl ⟨by rfl, ?_⟩) ?_ ?_
                        rotate_left
                        · intro w'
                          go_simp
                          with_reducible rfl
                        rotate_left
                        · simp only [Act.put, List.setIfInBounds_toArray, List.set_cons_zero, List.set_cons_succ, i64_w, i32_w]
                          rfl
                        refine pure_ (i := 2) (N := some 65) (v := ?_) (a' := ?_) #[true, true, true, false, false, false, false, false, false, false, false, false, false] rfl rfl (any_of HT_.out (by kernel_rfl)) (fun _ _ _ h => h) (Or.inl ⟨by rfl, ?_⟩) ?_ ?_
                        rotate_left
                        · intro w'
                          go_simp
                          with_reducible rfl
                        rotate_left
                        · simp only [Act.put, List.setIfInBounds_toArray, List.set_cons_zero, List.set_cons_succ, i64_w, i32_w]
                          rfl
                        refine pure_ (i := 3) (N := some 66) (v := ?_) (a' := ?_) #[true, true, true, true, false, false, false, false, false, false, false, false, false] rfl rfl (any_of HT_.out (by kernel_rfl)) (fun _ _ _ h => h) (Or.inl ⟨by rfl, ?_⟩) ?_ ?_
                        rotate_left
                        · intro w'
                          go_simp
                          with_reducible rfl
                        rotate_left
                        · simp only [Act.put, List.setIfInBounds_toArray, List.set_cons_zero, List.set_cons_succ, i64_w, i32_w]
                          rfl
                        refine pure_ (i := 4) (N := some 67) (v := ?_) (a' := ?_) #[true, true, true, true, true, false, false, false, false, false, false, false, false] rfl rfl (any_of HT_.out (by kernel_rfl)) (fun _ _ _ h => h) (Or.inl ⟨by rfl, ?_⟩) ?_ ?_
                        rotate_left
                        · intro w'
                          go_simp
                          with_reducible rfl
                        rotate_left
                        · simp only [Act.put, List.setIfInBounds_toArray, List.set_cons_zero, List.set_cons_succ, i64_w, i32_w]
                          rfl
                        refine pure_ (i := 5) (N := some 68) (v := ?_) (a' := ?_) #[true, true, true, true, true, true, false, false, false, false, false, false, false] rfl rfl (any_of HT_.out (by kernel_rfl)) (fun _ _ _ h => h) (Or.inl ⟨by rfl, ?_⟩) ?_ ?_
                        rotate_left
                        · intro w'
                          go_simp
                          with_reducible rfl
                        rotate_left
                        · simp only [Act.put, List.setIfInBounds_toArray, List.set_cons_zero, List.set_cons_succ, i64_w, i32_w]
                          rfl
                        refine pure_ (i := 6) (N := some 69) (v := ?_) (a' := ?_) #[true, true, true, true, true, true, true, false, false, false, false, false, false] rfl rfl (any_of HT_.out (by kernel_rfl)) (fun _ _ _ h => h) (Or.inl ⟨by rfl, ?_⟩) ?_ ?_
                        rotate_left
                        · intro w'
                          go_simp
                          with_reducible rfl
                        rotate_left
                        · simp only [Act.put, List.setIfInBounds_toArray, List.set_cons_zero, List.set_cons_succ, i64_w, i32_w]
                          rfl
                        refine pure_ (i := 8) (N := some 71) (v := ?_) (a' := ?_) #[true, true, true, true, true, true, true, false, true, false, false, false, false] rfl rfl (any_of HT_.out (by kernel_rfl)) (fun _ _ _ h => h) (Or.inl ⟨by rfl, ?_⟩) ?_ ?_
                        rotate_left
                        · intro w'
                          go_simp
                          with_reducible rfl
                        rotate_left
                        · simp only [Act.put, List.setIfInBounds_toArray, List.set_cons_zero, List.set_cons_succ, i64_w, i32_w]
                          rfl
                        refine take_ (i := 7) (N := some 70) (v := ?_) (a' := ?_) #[true, true, true, true, true, true, true, true, true, false, false, false, false] rfl rfl (take_ofW HT_.out HW_.out (by kernel_rfl)) (fun _ _ _ h => h) (Or.inl ⟨by rfl, ?_⟩) hHeld ?_ ?_
                        rotate_left
                        · rintro w' ⟨s0, s1, s2, s3, s4, s5, s6, s7, s8, s9⟩
                          go_simp
                          with_reducible rfl
                        rotate_left
                        · simp only [Act.put, List.setIfInBounds_toArray, List.set_cons_zero, List.set_cons_succ, i64_w, i32_w]
                          rfl
                        refine take_ (i := 9) (N := some 72) (v := ?_) (a' := ?_) #[true, true, true, true, true, true, true, true, true, true, false, false, false] rfl rfl (take_ofW HT_.out HW_.out (by kernel_rfl)) (fun _ _ _ h => h) (Or.inl ⟨by rfl, ?_⟩) hHeld ?_ ?_
                        rotate_left
                        · rintro w' ⟨s0, s1, s2, s3, s4, s5, s6, s7, s8, s9⟩
                          go_simp
                          with_reducible rfl
                        rotate_left
                        · simp only [Act.put, List.setIfInBounds_toArray, List.set_cons_zero, List.set_cons_succ, i64_w, i32_w]
                          rfl
                        refine pure_ (i := 10) (N := some 73) (v := ?_) (a' := ?_) #[true, true, true, true, true, true, true, true, true, true, true, false, false] rfl rfl (any_of HT_.out (by kernel_rfl)) (fun _ _ _ h => h) (Or.inl ⟨by rfl, ?_⟩) ?_ ?_
                        rotate_left
                        · intro w'
                          go_simp
                          with_reducible rfl
                        rotate_left
                        · simp only [Act.put, List.setIfInBounds_toArray, List.set_cons_zero, List.set_cons_succ, i64_w, i32_w]
                          rfl
                        refine pure_ (i := 11) (N := some 74) (v := ?_) (a' := ?_) #[true, true, true, true, true, true, true, true, true, true, true, true, false] rfl rfl (any_of HT_.out (by kernel_rfl)) (fun _ _ _ h => h) (Or.inl ⟨by rfl, ?_⟩) ?_ ?_
                        rotate_left
                        · intro w'
                          go_simp
                          with_reducible rfl
                        rotate_left
                        · simp only [Act.put, List.setIfInBounds_toArray, List.set_cons_zero, List.set_cons_succ, i64_w, i32_w]
                          rfl
                        refine pure_ (i := 12) (N := some 8) (v := ?_) (a' := ?_) #[true, true, true, true, true, true, true, true, true, true, true, true, true] rfl rfl (any_of HT_.out (by kernel_rfl)) (fun _ _ _ h => h) (Or.inl ⟨by rfl, ?_⟩) ?_ ?_
                        rotate_left
                        · intro w'
                          go_simp
                          with_reducible rfl
                        rotate_left
                        · simp only [Act.put, List.setIfInBounds_toArray, List.set_cons_zero, List.set_cons_succ, i64_w, i32_w]
                          rfl
                        refine done_ (done_of HT_.out (by kernel_rfl)) ?_
                        try go_wp2
                        go_roundg k2
                        case measure => have := HJ1.out; have := HK2.out; omega
                        case rel => exact ⟨(true), ((((rd_T34 l0 x9_2).f2.f0) == t276)), (wrap64 (x9_2 + 1)), (by first | rfl | (simp; done) | (simp [*]; done)), (by first | rfl | (simp; done) | (simp [*]; done)), (by first | rfl | (simp; done) | (simp [*]; done)), H', ⟨by have := HJ1.out; have := HK2.out; omega⟩, ⟨by (with_reducible repeat (first | refine blk_drewN ?_ _ | refine blk_drew ?_ | refine blk_alloc ?_ _)); exact BK275.out⟩, ⟨by (with_reducible repeat (first | refine blk_drewN ?_ _ | refine blk_drew ?_ | refine blk_alloc ?_ _)); exact BK281.out⟩, ⟨by repeat (first | (with_reducible first | exact HB.out | apply below_alloc | apply pw_below_drewN | apply below_drew1 | refine below_set ?_ GE275.out | refine below_set ?_ GE281.out) | exact HB.out)⟩⟩
                    · replace c24 := Bool.eq_false_iff.mpr c24
                      subst c24
                      have H1 : (if x8_2 = true then (rollcalllaw11_BestOne.l0 k2 l0 t274 t280 ((((rd_T34 l0 x9_2).f0).toList) == t268.toList && (((rd_T34 l0 x9_2).f1) == t269 && ((((rd_T34 l0 x9_2).f2.f0) == t270 && (((rd_T34 l0 x9_2).f2.f1) == t271 && (((rd_T34 l0 x9_2).f2.f2) == t272 && ((((rd_T34 l0 x9_2).f2.f3).toList) == t273.toList))))))) true (wrap64 (x9_2 + 1)) t268 t269 t270 t271 t272 t273 t276 t277 t278 t279) else (rollcalllaw11_BestOne.l0 k2 l0 t274 t280 ((((rd_T34 l0 x9_2).f0).toList) == t268.toList && (((rd_T34 l0 x9_2).f1) == t269 && ((((rd_T34 l0 x9_2).f2.f0) == t270 && (((rd_T34 l0 x9_2).f2.f1) == t271 && (((rd_T34 l0 x9_2).f2.f2) == t272 && ((((rd_T34 l0 x9_2).f2.f3).toList) == t273.toList))))))) (((rd_T34 l0 x9_2).f2.f0) == t276) (wrap64 (x9_2 + 1)) t268 t269 t270 t271 t272 t273 t276 t277 t278 t279)) = some r := by rw [if_neg (show ¬ (false = true) by decide)] at H; exact H
                      clear H
                      have H := H1
                      clear H1
                      by_cases c38 : x8_2 = true
                      · subst c38
                        have H1 : (rollcalllaw11_BestOne.l0 k2 l0 t274 t280 ((((rd_T34 l0 x9_2).f0).toList) == t268.toList && (((rd_T34 l0 x9_2).f1) == t269 && ((((rd_T34 l0 x9_2).f2.f0) == t270 && (((rd_T34 l0 x9_2).f2.f1) == t271 && (((rd_T34 l0 x9_2).f2.f2) == t272 && ((((rd_T34 l0 x9_2).f2.f3).toList) == t273.toList))))))) true (wrap64 (x9_2 + 1)) t268 t269 t270 t271 t272 t273 t276 t277 t278 t279) = some r := by rw [if_pos rfl] at H; exact H
                        clear H
                        have H := H1
                        clear H1
                        have H' := Aside0.mk H
                        clear H
                        try go_wp2
                        have n0_ := Aside0.mk (blk_drew BK275.out)
                        have n1_ := Aside0.mk (blk_drew BK281.out)
                        have n2_ := Aside0.mk (below_drew1 HB.out)
                        clear BK275
                        clear BK281
                        clear HB
                        have BK275 := n0_
                        have BK281 := n1_
                        have HB := n2_
                        clear n0_ n1_ n2_
                        have p283 : 0 ≤ (x9_2 : Int) := of_decide_eq_true (by first | (with_reducible assumption) | assumption)
                        have q283 : x9_2 < (l0.length : Int) := of_decide_eq_true (by first | (with_reducible assumption) | assumption)
                        obtain ⟨ad283, e283, hx283_0, hx283_1, hx283_2, hx283_3, hx283_4, hx283_5⟩ := at_T34 HR0.out x9_2 p283 q283
                        have hw283_5 := hx283_5
                        have hw283_4 := hx283_4
                        have hw283_3 := hx283_3
                        have hw283_2 := hx283_2
                        have hw283_1 := hx283_1
                        have hw283_0 := hx283_0
                        cases e283
                        replace hx283_0 := (HB.out.cell (World.block_lt_of_cell? w _ hx283_0)).trans hx283_0
                        replace hx283_1 := (HB.out.cell (World.block_lt_of_cell? w _ hx283_1)).trans hx283_1
                        replace hx283_2 := (HB.out.cell (World.block_lt_of_cell? w _ hx283_2)).trans hx283_2
                        replace hx283_3 := (HB.out.cell (World.block_lt_of_cell? w _ hx283_3)).trans hx283_3
                        replace hx283_4 := (HB.out.cell (World.block_lt_of_cell? w _ hx283_4)).trans hx283_4
                        replace hx283_5 := (HB.out.cell (World.block_lt_of_cell? w _ hx283_5)).trans hx283_5
                        replace p283 := eq_true p283
                        replace q283 := eq_true q283
                        have p293 : 0 ≤ (x9_2 : Int) := of_decide_eq_true (by first | (with_reducible assumption) | assumption)
                        have q293 : x9_2 < (l0.length : Int) := of_decide_eq_true (by first | (with_reducible assumption) | assumption)
                        obtain ⟨ad293, e293, hx293_0, hx293_1, hx293_2, hx293_3, hx293_4, hx293_5⟩ := at_T34 HR0.out x9_2 p293 q293
                        have hw293_5 := hx293_5
                        have hw293_4 := hx293_4
                        have hw293_3 := hx293_3
                        have hw293_2 := hx293_2
                        have hw293_1 := hx293_1
                        have hw293_0 := hx293_0
                        obtain rfl : ad283 = ad293 := (by injection e293)
                        replace hx293_0 := (HB.out.cell (World.block_lt_of_cell? w _ hx293_0)).trans hx293_0
                        replace hx293_1 := (HB.out.cell (World.block_lt_of_cell? w _ hx293_1)).trans hx293_1
                        replace hx293_2 := (HB.out.cell (World.block_lt_of_cell? w _ hx293_2)).trans hx293_2
                        replace hx293_3 := (HB.out.cell (World.block_lt_of_cell? w _ hx293_3)).trans hx293_3
                        replace hx293_4 := (HB.out.cell (World.block_lt_of_cell? w _ hx293_4)).trans hx293_4
                        replace hx293_5 := (HB.out.cell (World.block_lt_of_cell? w _ hx293_5)).trans hx293_5
                        replace p293 := eq_true p293
                        replace q293 := eq_true q293
                        refine start_ (n := 19) (S := fun w' => w'.cell? ⟨gb275, 0, none⟩ = some (.string t268) ∧ w'.cell? ⟨gb275, 1, none⟩ = some (.int .i64 t269) ∧ w'.cell? ⟨gb275, 2, none⟩ = some (.int .i64 t270) ∧ w'.cell? ⟨gb275, 3, none⟩ = some (.int .i64 t271) ∧ w'.cell? ⟨gb275, 4, none⟩ = some (.int .i64 t272) ∧ w'.cell? ⟨gb275, 5, none⟩ = some (.string t273) ∧ w'.cell? ⟨gb281, 0, none⟩ = some (.int .i64 t276) ∧ w'.cell? ⟨gb281, 1, none⟩ = some (.int .i64 t277) ∧ w'.cell? ⟨gb281, 2, none⟩ = some (.int .i64 t278) ∧ w'.cell? ⟨gb281, 3, none⟩ = some (.string t279) ∧ w'.cell? (ad283.add ((x9_2).toNat * 6)) = some (.string ((rd_T34 l0 x9_2).f0)) ∧ w'.cell? ⟨(ad283.add ((x9_2).toNat * 6)).block, (ad283.add ((x9_2).toNat * 6)).off + 1, none⟩ = some (.int .i64 ((rd_T34 l0 x9_2).f1)) ∧ w'.cell? ⟨(ad283.add ((x9_2).toNat * 6)).block, (ad283.add ((x9_2).toNat * 6)).off + 2, none⟩ = some (.int .i64 ((rd_T34 l0 x9_2).f2.f0)) ∧ w'.cell? ⟨(ad283.add ((x9_2).toNat * 6)).block, (ad283.add ((x9_2).toNat * 6)).off + 3, none⟩ = some (.int .i64 ((rd_T34 l0 x9_2).f2.f1)) ∧ w'.cell? ⟨(ad283.add ((x9_2).toNat * 6)).block, (ad283.add ((x9_2).toNat * 6)).off + 4, none⟩ = some (.int .i64 ((rd_T34 l0 x9_2).f2.f2)) ∧ w'.cell? ⟨(ad283.add ((x9_2).toNat * 6)).block, (ad283.add ((x9_2).toNat * 6)).off + 5, none⟩ = some (.string ((rd_T34 l0 x9_2).f2.f3)) ∧ w'.cell? (ad283.add ((x9_2).toNat * 6)) = some (.string ((rd_T34 l0 x9_2).f0)) ∧ w'.cell? ⟨(ad283.add ((x9_2).toNat * 6)).block, (ad283.add ((x9_2).toNat * 6)).off + 1, none⟩ = some (.int .i64 ((rd_T34 l0 x9_2).f1)) ∧ w'.cell? ⟨(ad283.add ((x9_2).toNat * 6)).block, (ad283.add ((x9_2).toNat * 6)).off + 2, none⟩ = some (.int .i64 ((rd_T34 l0 x9_2).f2.f0)) ∧ w'.cell? ⟨(ad283.add ((x9_2).toNat * 6)).block, (ad283.add ((x9_2).toNat * 6)).off + 3, none⟩ = some (.int .i64 ((rd_T34 l0 x9_2).f2.f1)) ∧ w'.cell? ⟨(ad283.add ((x9_2).toNat * 6)).block, (ad283.add ((x9_2).toNat * 6)).off + 4, none⟩ = some (.int .i64 ((rd_T34 l0 x9_2).f2.f2)) ∧ w'.cell? ⟨(ad283.add ((x9_2).toNat * 6)).block, (ad283.add ((x9_2).toNat * 6)).off + 5, none⟩ = some (.string ((rd_T34 l0 x9_2).f2.f3))) (ds := []) #[false, false, false, false, false, false, false, false, false, false, false, false, false, false, false, false, false, false, false] (by kernel_rfl) rfl rfl ⟨(blk_cell BK275.out 0).trans rfl, (blk_cell BK275.out 1).trans rfl, (blk_cell BK275.out 2).trans rfl, (blk_cell BK275.out 3).trans rfl, (blk_cell BK275.out 4).trans rfl, (blk_cell BK275.out 5).trans rfl, (blk_cell BK281.out 0).trans rfl, (blk_cell BK281.out 1).trans rfl, (blk_cell BK281.out 2).trans rfl, (blk_cell BK281.out 3).trans rfl, ((HB.out.cell (World.block_lt_of_cell? w _ hw283_0)).trans hw283_0), ((HB.out.cell (World.block_lt_of_cell? w _ hw283_1)).trans hw283_1), ((HB.out.cell (World.block_lt_of_cell? w _ hw283_2)).trans hw283_2), ((HB.out.cell (World.block_lt_of_cell? w _ hw283_3)).trans hw283_3), ((HB.out.cell (World.block_lt_of_cell? w _ hw283_4)).trans hw283_4), ((HB.out.cell (World.block_lt_of_cell? w _ hw283_5)).trans hw283_5), ((HB.out.cell (World.block_lt_of_cell? w _ hw293_0)).trans hw293_0), ((HB.out.cell (World.block_lt_of_cell? w _ hw293_1)).trans hw293_1), ((HB.out.cell (World.block_lt_of_cell? w _ hw293_2)).trans hw293_2), ((HB.out.cell (World.block_lt_of_cell? w _ hw293_3)).trans hw293_3), ((HB.out.cell (World.block_lt_of_cell? w _ hw293_4)).trans hw293_4), ((HB.out.cell (World.block_lt_of_cell? w _ hw293_5)).trans hw293_5)⟩ (fun hHeld => ?_); refine with_tabW rollcalllaw11_BestOne.tab10 rollcalllaw11_BestOne.bits10 (fun HT_ HW_ => ?_)
                        generalize wr.drew = w39 at BK275 BK281 HB hx283_0 hx283_1 hx283_2 hx283_3 hx283_4 hx283_5 hx293_0 hx293_1 hx293_2 hx293_3 hx293_4 hx293_5 hHeld ⊢
                        refine pure_ (i := 0) (N := some 35) (v := ?_) (a' := ?_) #[true, false, false, false, false, false, false, false, false, false, false, false, false, false, false, false, false, false, false] rfl rfl (any_of HT_.out (by kernel_rfl)) (fun _ _ _ h => h) (Or.inl ⟨by rfl, ?_⟩) ?_ ?_
                        rotate_left
                        · intro w'
                          go_simp
                          with_reducible rfl
                        rotate_left
                        · simp only [Act.put, List.setIfInBounds_toArray, List.set_cons_zero, List.set_cons_succ, i64_w, i32_w]
                          rfl
                        refine pure_ (i := 1) (N := some 36) (v := ?_) (a' := ?_) #[true, true, false, false, false, false, false, false, false, false, false, false, false, false, false, false, false, false, false] rfl rfl (any_of HT_.out (by kernel_rfl)) (fun _ _ _ h => h) (Or.inl ⟨by rfl, ?_⟩) ?_ ?_
                        rotate_left
                        · intro w'
                          go_simp
                          with_reducible rfl
                        rotate_left
                        · simp only [Act.put, List.setIfInBounds_toArray, List.set_cons_zero, List.set_cons_succ, i64_w, i32_w]
                          rfl
                        refine pure_ (i := 2) (N := some 37) (v := ?_) (a' := ?_) #[true, true, true, false, false, false, false, false, false, false, false, false, false, false, false, false, false, false, false] rfl rfl (any_of HT_.out (by kernel_rfl)) (fun _ _ _ h => h) (Or.inl ⟨by rfl, ?_⟩) ?_ ?_
                        rotate_left
                        · intro w'
                          go_simp
                          with_reducible rfl
                        rotate_left
                        · simp only [Act.put, List.setIfInBounds_toArray, List.set_cons_zero, List.set_cons_succ, i64_w, i32_w]
                          rfl
                        refine take_ (i := 3) (N := some 38) (v := ?_) (a' := ?_) #[true, true, true, true, false, false, false, false, false, false, false, false, false, false, false, false, false, false, false] rfl rfl (take_ofW HT_.out HW_.out (by kernel_rfl)) (fun _ _ _ h => h) (Or.inl ⟨by rfl, ?_⟩) hHeld ?_ ?_
                        rotate_left
                        · rintro w' ⟨s0, s1, s2, s3, s4, s5, s6, s7, s8, s9, s10, s11, s12, s13, s14, s15, s16, s17, s18, s19, s20, s21⟩
                          go_simp
                          with_reducible rfl
                        rotate_left
                        · simp only [Act.put, List.setIfInBounds_toArray, List.set_cons_zero, List.set_cons_succ, i64_w, i32_w]
                          rfl
                        refine take_ (i := 5) (N := some 40) (v := ?_) (a' := ?_) #[true, true, true, true, false, true, false, false, false, false, false, false, false, false, false, false, false, false, false] rfl rfl (take_ofW HT_.out HW_.out (by kernel_rfl)) (fun _ _ _ h => h) (Or.inl ⟨by rfl, ?_⟩) hHeld ?_ ?_
                        rotate_left
                        · rintro w' ⟨s0, s1, s2, s3, s4, s5, s6, s7, s8, s9, s10, s11, s12, s13, s14, s15, s16, s17, s18, s19, s20, s21⟩
                          go_simp
                          with_reducible rfl
                        rotate_left
                        · simp only [Act.put, List.setIfInBounds_toArray, List.set_cons_zero, List.set_cons_succ, i64_w, i32_w]
                          rfl
                        refine one_ (i := 4) (N := some 39) #[true, true, true, true, true, true, false, false, false, false, false, false, false, false, false, false, false, false, false] rfl rfl (one_of HT_.out (by kernel_rfl)) (by decide) (fun K hK => ?_)
                        refine goes_ Try.func11 (by kernel_rfl) rfl #[.agg #[.string ((rd_T34 l0 x9_2).f0), .int .i64 ((rd_T34 l0 x9_2).f1), .int .i64 ((rd_T34 l0 x9_2).f2.f0), .int .i64 ((rd_T34 l0 x9_2).f2.f1), .int .i64 ((rd_T34 l0 x9_2).f2.f2), .string ((rd_T34 l0 x9_2).f2.f3)]] (by rfl) rfl rfl (by (try simp only [List.map_toArray, List.map_cons, List.map_nil]); first | done | rfl | (simp only [List.length_drop, List.length_take]; rfl)) ?_
                        with_reducible refine (best_Slot.calls ((rd_T34 l0 x9_2).f0) ((rd_T34 l0 x9_2).f1) ((rd_T34 l0 x9_2).f2.f0) ((rd_T34 l0 x9_2).f2.f1) ((rd_T34 l0 x9_2).f2.f2) ((rd_T34 l0 x9_2).f2.f3) t284 t285 t286 t287 _ A19.out).mono ?_
                        rintro e w40 ⟨rfl, hb⟩
                        refine ⟨_, rfl, ?_⟩
                        have n0_ := Aside0.mk (blk_below (g := gb275) (o := .cells #[.string t268, .int .i64 t269, .int .i64 t270, .int .i64 t271, .int .i64 t272, .string t273] 34 (0, 0)) (by (with_reducible repeat (first | refine blk_drewN ?_ _ | refine blk_drew ?_ | refine blk_alloc ?_ _)); exact BK275.out) hb)
                        have n1_ := Aside0.mk (blk_below (g := gb281) (o := .cells #[.int .i64 t276, .int .i64 t277, .int .i64 t278, .string t279] 24 (0, 0)) (by (with_reducible repeat (first | refine blk_drewN ?_ _ | refine blk_drew ?_ | refine blk_alloc ?_ _)); exact BK281.out) hb)
                        have n2_ := Aside0.mk (below_step (by repeat (first | (with_reducible first | exact HB.out | apply below_alloc | apply pw_below_drewN | apply below_drew1 | refine below_set ?_ GE275.out | refine below_set ?_ GE281.out) | exact HB.out)) hb)
                        clear BK275
                        clear BK281
                        clear HB
                        have BK275 := n0_
                        have BK281 := n1_
                        have HB := n2_
                        clear n0_ n1_ n2_
                        (try clear hb)
                        (try clear hb2)
                        (try clear hk)
                        (try clear hi)
                        refine hK.out _ _ ⟨(blk_cell BK275.out 0).trans rfl, (blk_cell BK275.out 1).trans rfl, (blk_cell BK275.out 2).trans rfl, (blk_cell BK275.out 3).trans rfl, (blk_cell BK275.out 4).trans rfl, (blk_cell BK275.out 5).trans rfl, (blk_cell BK281.out 0).trans rfl, (blk_cell BK281.out 1).trans rfl, (blk_cell BK281.out 2).trans rfl, (blk_cell BK281.out 3).trans rfl, ((HB.out.cell (World.block_lt_of_cell? w _ hw283_0)).trans hw283_0), ((HB.out.cell (World.block_lt_of_cell? w _ hw283_1)).trans hw283_1), ((HB.out.cell (World.block_lt_of_cell? w _ hw283_2)).trans hw283_2), ((HB.out.cell (World.block_lt_of_cell? w _ hw283_3)).trans hw283_3), ((HB.out.cell (World.block_lt_of_cell? w _ hw283_4)).trans hw283_4), ((HB.out.cell (World.block_lt_of_cell? w _ hw283_5)).trans hw283_5), ((HB.out.cell (World.block_lt_of_cell? w _ hw293_0)).trans hw293_0), ((HB.out.cell (World.block_lt_of_cell? w _ hw293_1)).trans hw293_1), ((HB.out.cell (World.block_lt_of_cell? w _ hw293_2)).trans hw293_2), ((HB.out.cell (World.block_lt_of_cell? w _ hw293_3)).trans hw293_3), ((HB.out.cell (World.block_lt_of_cell? w _ hw293_4)).trans hw293_4), ((HB.out.cell (World.block_lt_of_cell? w _ hw293_5)).trans hw293_5)⟩ (fun hHeld => ?_)
                        clear hK K
                        refine norm_ (a' := ?_) ?_ ?_
                        rotate_left
                        · show Act.put _ (some 39) _ = _
                          simp only [Act.put, List.setIfInBounds_toArray, List.set_cons_zero, List.set_cons_succ, i64_w, i32_w]
                          rfl
                        refine one_ (i := 6) (N := some 41) #[true, true, true, true, true, true, true, false, false, false, false, false, false, false, false, false, false, false, false] rfl rfl (one_of HT_.out (by kernel_rfl)) (by decide) (fun K hK => ?_)
                        refine goes_ Try.func11 (by kernel_rfl) rfl #[.agg #[.string t268, .int .i64 t269, .int .i64 t270, .int .i64 t271, .int .i64 t272, .string t273]] (by rfl) rfl rfl (by (try simp only [List.map_toArray, List.map_cons, List.map_nil]); first | done | rfl | (simp only [List.length_drop, List.length_take]; rfl)) ?_
                        with_reducible refine (best_Slot.calls t268 t269 t270 t271 t272 t273 t288 t289 t290 t291 _ A20.out).mono ?_
                        rintro e w41 ⟨rfl, hb⟩
                        refine ⟨_, rfl, ?_⟩
                        have n0_ := Aside0.mk (blk_below (g := gb275) (o := .cells #[.string t268, .int .i64 t269, .int .i64 t270, .int .i64 t271, .int .i64 t272, .string t273] 34 (0, 0)) (by (with_reducible repeat (first | refine blk_drewN ?_ _ | refine blk_drew ?_ | refine blk_alloc ?_ _)); exact BK275.out) hb)
                        have n1_ := Aside0.mk (blk_below (g := gb281) (o := .cells #[.int .i64 t276, .int .i64 t277, .int .i64 t278, .string t279] 24 (0, 0)) (by (with_reducible repeat (first | refine blk_drewN ?_ _ | refine blk_drew ?_ | refine blk_alloc ?_ _)); exact BK281.out) hb)
                        have n2_ := Aside0.mk (below_step (by repeat (first | (with_reducible first | exact HB.out | apply below_alloc | apply pw_below_drewN | apply below_drew1 | refine below_set ?_ GE275.out | refine below_set ?_ GE281.out) | exact HB.out)) hb)
                        clear BK275
                        clear BK281
                        clear HB
                        have BK275 := n0_
                        have BK281 := n1_
                        have HB := n2_
                        clear n0_ n1_ n2_
                        (try clear hb)
                        (try clear hb2)
                        (try clear hk)
                        (try clear hi)
                        refine hK.out _ _ ⟨(blk_cell BK275.out 0).trans rfl, (blk_cell BK275.out 1).trans rfl, (blk_cell BK275.out 2).trans rfl, (blk_cell BK275.out 3).trans rfl, (blk_cell BK275.out 4).trans rfl, (blk_cell BK275.out 5).trans rfl, (blk_cell BK281.out 0).trans rfl, (blk_cell BK281.out 1).trans rfl, (blk_cell BK281.out 2).trans rfl, (blk_cell BK281.out 3).trans rfl, ((HB.out.cell (World.block_lt_of_cell? w _ hw283_0)).trans hw283_0), ((HB.out.cell (World.block_lt_of_cell? w _ hw283_1)).trans hw283_1), ((HB.out.cell (World.block_lt_of_cell? w _ hw283_2)).trans hw283_2), ((HB.out.cell (World.block_lt_of_cell? w _ hw283_3)).trans hw283_3), ((HB.out.cell (World.block_lt_of_cell? w _ hw283_4)).trans hw283_4), ((HB.out.cell (World.block_lt_of_cell? w _ hw283_5)).trans hw283_5), ((HB.out.cell (World.block_lt_of_cell? w _ hw293_0)).trans hw293_0), ((HB.out.cell (World.block_lt_of_cell? w _ hw293_1)).trans hw293_1), ((HB.out.cell (World.block_lt_of_cell? w _ hw293_2)).trans hw293_2), ((HB.out.cell (World.block_lt_of_cell? w _ hw293_3)).trans hw293_3), ((HB.out.cell (World.block_lt_of_cell? w _ hw293_4)).trans hw293_4), ((HB.out.cell (World.block_lt_of_cell? w _ hw293_5)).trans hw293_5)⟩ (fun hHeld => ?_)
                        clear hK K
                        refine norm_ (a' := ?_) ?_ ?_
                        rotate_left
                        · show Act.put _ (some 41) _ = _
                          simp only [Act.put, List.setIfInBounds_toArray, List.set_cons_zero, List.set_cons_succ, i64_w, i32_w]
                          rfl
                        refine one_ (i := 7) (N := some 42) #[true, true, true, true, true, true, true, true, false, false, false, false, false, false, false, false, false, false, false] rfl rfl (one_of HT_.out (by kernel_rfl)) (by decide) (fun K hK => ?_)
                        refine goes_ Try.func21 (by kernel_rfl) rfl #[.agg #[.int .i64 t284, .int .i64 t285, .int .i64 t286, .int .i64 t287], .agg #[.int .i64 t288, .int .i64 t289, .int .i64 t290, .int .i64 t291]] (by rfl) rfl rfl (by (try simp only [List.map_toArray, List.map_cons, List.map_nil]); first | done | rfl | (simp only [List.length_drop, List.length_take]; rfl)) ?_
                        with_reducible refine (heap_Better.calls t284 t285 t286 t287 t288 t289 t290 t291 false _ A21.out).mono ?_
                        rintro e w42 ⟨rfl, hb⟩
                        refine ⟨_, rfl, ?_⟩
                        have n0_ := Aside0.mk (blk_below (g := gb275) (o := .cells #[.string t268, .int .i64 t269, .int .i64 t270, .int .i64 t271, .int .i64 t272, .string t273] 34 (0, 0)) (by (with_reducible repeat (first | refine blk_drewN ?_ _ | refine blk_drew ?_ | refine blk_alloc ?_ _)); exact BK275.out) hb)
                        have n1_ := Aside0.mk (blk_below (g := gb281) (o := .cells #[.int .i64 t276, .int .i64 t277, .int .i64 t278, .string t279] 24 (0, 0)) (by (with_reducible repeat (first | refine blk_drewN ?_ _ | refine blk_drew ?_ | refine blk_alloc ?_ _)); exact BK281.out) hb)
                        have n2_ := Aside0.mk (below_step (by repeat (first | (with_reducible first | exact HB.out | apply below_alloc | apply pw_below_drewN | apply below_drew1 | refine below_set ?_ GE275.out | refine below_set ?_ GE281.out) | exact HB.out)) hb)
                        clear BK275
                        clear BK281
                        clear HB
                        have BK275 := n0_
                        have BK281 := n1_
                        have HB := n2_
                        clear n0_ n1_ n2_
                        (try clear hb)
                        (try clear hb2)
                        (try clear hk)
                        (try clear hi)
                        refine hK.out _ _ ⟨(blk_cell BK275.out 0).trans rfl, (blk_cell BK275.out 1).trans rfl, (blk_cell BK275.out 2).trans rfl, (blk_cell BK275.out 3).trans rfl, (blk_cell BK275.out 4).trans rfl, (blk_cell BK275.out 5).trans rfl, (blk_cell BK281.out 0).trans rfl, (blk_cell BK281.out 1).trans rfl, (blk_cell BK281.out 2).trans rfl, (blk_cell BK281.out 3).trans rfl, ((HB.out.cell (World.block_lt_of_cell? w _ hw283_0)).trans hw283_0), ((HB.out.cell (World.block_lt_of_cell? w _ hw283_1)).trans hw283_1), ((HB.out.cell (World.block_lt_of_cell? w _ hw283_2)).trans hw283_2), ((HB.out.cell (World.block_lt_of_cell? w _ hw283_3)).trans hw283_3), ((HB.out.cell (World.block_lt_of_cell? w _ hw283_4)).trans hw283_4), ((HB.out.cell (World.block_lt_of_cell? w _ hw283_5)).trans hw283_5), ((HB.out.cell (World.block_lt_of_cell? w _ hw293_0)).trans hw293_0), ((HB.out.cell (World.block_lt_of_cell? w _ hw293_1)).trans hw293_1), ((HB.out.cell (World.block_lt_of_cell? w _ hw293_2)).trans hw293_2), ((HB.out.cell (World.block_lt_of_cell? w _ hw293_3)).trans hw293_3), ((HB.out.cell (World.block_lt_of_cell? w _ hw293_4)).trans hw293_4), ((HB.out.cell (World.block_lt_of_cell? w _ hw293_5)).trans hw293_5)⟩ (fun hHeld => ?_)
                        clear hK K
                        refine norm_ (a' := ?_) ?_ ?_
                        rotate_left
                        · show Act.put _ (some 42) _ = _
                          simp only [Act.put, List.setIfInBounds_toArray, List.set_cons_zero, List.set_cons_succ, i64_w, i32_w]
                          rfl
                        refine pure_ (i := 8) (N := some 43) (v := ?_) (a' := ?_) #[true, true, true, true, true, true, true, true, true, false, false, false, false, false, false, false, false, false, false] rfl rfl (any_of HT_.out (by kernel_rfl)) (fun _ _ _ h => h) (Or.inl ⟨by rfl, ?_⟩) ?_ ?_
                        rotate_left
                        · intro w'
                          go_simp
                          with_reducible rfl
                        rotate_left
                        · simp only [Act.put, List.setIfInBounds_toArray, List.set_cons_zero, List.set_cons_succ, i64_w, i32_w]
                          rfl
                        refine pure_ (i := 9) (N := some 44) (v := ?_) (a' := ?_) #[true, true, true, true, true, true, true, true, true, true, false, false, false, false, false, false, false, false, false] rfl rfl (any_of HT_.out (by kernel_rfl)) (fun _ _ _ h => h) (Or.inl ⟨by rfl, ?_⟩) ?_ ?_
                        rotate_left
                        · intro w'
                          go_simp
                          with_reducible rfl
                        rotate_left
                        · simp only [Act.put, List.setIfInBounds_toArray, List.set_cons_zero, List.set_cons_succ, i64_w, i32_w]
                          rfl
                        refine pure_ (i := 10) (N := some 45) (v := ?_) (a' := ?_) #[true, true, true, true, true, true, true, true, true, true, true, false, false, false, false, false, false, false, false] rfl rfl (any_of HT_.out (by kernel_rfl)) (fun _ _ _ h => h) (Or.inl ⟨by rfl, ?_⟩) ?_ ?_
                        rotate_left
                        · intro w'
                          go_simp
                          with_reducible rfl
                        rotate_left
                        · simp only [Act.put, List.setIfInBounds_toArray, List.set_cons_zero, List.set_cons_succ, i64_w, i32_w]
                          rfl
                        refine pure_ (i := 11) (N := some 46) (v := ?_) (a' := ?_) #[true, true, true, true, true, true, true, true, true, true, true, true, false, false, false, false, false, false, false] rfl rfl (any_of HT_.out (by kernel_rfl)) (fun _ _ _ h => h) (Or.inl ⟨by rfl, ?_⟩) ?_ ?_
                        rotate_left
                        · intro w'
                          go_simp
                          with_reducible rfl
                        rotate_left
                        · simp only [Act.put, List.setIfInBounds_toArray, List.set_cons_zero, List.set_cons_succ, i64_w, i32_w]
                          rfl
                        refine pure_ (i := 12) (N := some 47) (v := ?_) (a' := ?_) #[true, true, true, true, true, true, true, true, true, true, true, true, true, false, false, false, false, false, false] rfl rfl (any_of HT_.out (by kernel_rfl)) (fun _ _ _ h => h) (Or.inl ⟨by rfl, ?_⟩) ?_ ?_
                        rotate_left
                        · intro w'
                          go_simp
                          with_reducible rfl
                        rotate_left
                        · simp only [Act.put, List.setIfInBounds_toArray, List.set_cons_zero, List.set_cons_succ, i64_w, i32_w]
                          rfl
                        refine pure_ (i := 13) (N := some 48) (v := ?_) (a' := ?_) #[true, true, true, true, true, true, true, true, true, true, true, true, true, true, false, false, false, false, false] rfl rfl (any_of HT_.out (by kernel_rfl)) (fun _ _ _ h => h) (Or.inl ⟨by rfl, ?_⟩) ?_ ?_
                        rotate_left
                        · intro w'
                          go_simp
                          with_reducible rfl
                        rotate_left
                        · simp only [Act.put, List.setIfInBounds_toArray, List.set_cons_zero, List.set_cons_succ, i64_w, i32_w]
                          rfl
                        refine pure_ (i := 15) (N := some 50) (v := ?_) (a' := ?_) #[true, true, true, true, true, true, true, true, true, true, true, true, true, true, false, true, false, false, false] rfl rfl (any_of HT_.out (by kernel_rfl)) (fun _ _ _ h => h) (Or.inl ⟨by rfl, ?_⟩) ?_ ?_
                        rotate_left
                        · intro w'
                          go_simp
                          with_reducible rfl
                        rotate_left
                        · simp only [Act.put, List.setIfInBounds_toArray, List.set_cons_zero, List.set_cons_succ, i64_w, i32_w]
                          rfl
                        refine take_ (i := 14) (N := some 49) (v := ?_) (a' := ?_) #[true, true, true, true, true, true, true, true, true, true, true, true, true, true, true, true, false, false, false] rfl rfl (take_ofW HT_.out HW_.out (by kernel_rfl)) (fun _ _ _ h => h) (Or.inl ⟨by rfl, ?_⟩) hHeld ?_ ?_
                        rotate_left
                        · rintro w' ⟨s0, s1, s2, s3, s4, s5, s6, s7, s8, s9, s10, s11, s12, s13, s14, s15, s16, s17, s18, s19, s20, s21⟩
                          go_simp
                          with_reducible rfl
                        rotate_left
                        · simp only [Act.put, List.setIfInBounds_toArray, List.set_cons_zero, List.set_cons_succ, i64_w, i32_w]
                          rfl
                        refine take_ (i := 16) (N := some 51) (v := ?_) (a' := ?_) #[true, true, true, true, true, true, true, true, true, true, true, true, true, true, true, true, true, false, false] rfl rfl (take_ofW HT_.out HW_.out (by kernel_rfl)) (fun _ _ _ h => h) (Or.inl ⟨by rfl, ?_⟩) hHeld ?_ ?_
                        rotate_left
                        · rintro w' ⟨s0, s1, s2, s3, s4, s5, s6, s7, s8, s9, s10, s11, s12, s13, s14, s15, s16, s17, s18, s19, s20, s21⟩
                          go_simp
                          with_reducible rfl
                        rotate_left
                        · simp only [Act.put, List.setIfInBounds_toArray, List.set_cons_zero, List.set_cons_succ, i64_w, i32_w]
                          rfl
                        refine pure_ (i := 17) (N := some 52) (v := ?_) (a' := ?_) #[true, true, true, true, true, true, true, true, true, true, true, true, true, true, true, true, true, true, false] rfl rfl (any_of HT_.out (by kernel_rfl)) (fun _ _ _ h => h) (Or.inl ⟨by rfl, ?_⟩) ?_ ?_
                        rotate_left
                        · intro w'
                          go_simp
                          with_reducible rfl
                        rotate_left
                        · simp only [Act.put, List.setIfInBounds_toArray, List.set_cons_zero, List.set_cons_succ, i64_w, i32_w]
                          rfl
                        refine pure_ (i := 18) (N := some 53) (v := ?_) (a' := ?_) #[true, true, true, true, true, true, true, true, true, true, true, true, true, true, true, true, true, true, true] rfl rfl (any_of HT_.out (by kernel_rfl)) (fun _ _ _ h => h) (Or.inl ⟨by rfl, ?_⟩) ?_ ?_
                        rotate_left
                        · intro w'
                          go_simp
                          with_reducible rfl
                        rotate_left
                        · simp only [Act.put, List.setIfInBounds_toArray, List.set_cons_zero, List.set_cons_succ, i64_w, i32_w]
                          rfl
                        refine done_ (done_of HT_.out (by kernel_rfl)) ?_
                        try go_wp2
                        have n0_ := Aside0.mk (blk_drew BK275.out)
                        have n1_ := Aside0.mk (blk_drew BK281.out)
                        have n2_ := Aside0.mk (below_drew1 HB.out)
                        clear BK275
                        clear BK281
                        clear HB
                        have BK275 := n0_
                        have BK281 := n1_
                        have HB := n2_
                        clear n0_ n1_ n2_
                        have p295 : 0 ≤ (x9_2 : Int) := of_decide_eq_true (by first | (with_reducible assumption) | assumption)
                        have q295 : x9_2 < (l0.length : Int) := of_decide_eq_true (by first | (with_reducible assumption) | assumption)
                        obtain ⟨ad295, e295, hx295_0, hx295_1, hx295_2, hx295_3, hx295_4, hx295_5⟩ := at_T34 HR0.out x9_2 p295 q295
                        have hw295_5 := hx295_5
                        have hw295_4 := hx295_4
                        have hw295_3 := hx295_3
                        have hw295_2 := hx295_2
                        have hw295_1 := hx295_1
                        have hw295_0 := hx295_0
                        obtain rfl : ad283 = ad295 := (by injection e295)
                        replace hx295_0 := (HB.out.cell (World.block_lt_of_cell? w _ hx295_0)).trans hx295_0
                        replace hx295_1 := (HB.out.cell (World.block_lt_of_cell? w _ hx295_1)).trans hx295_1
                        replace hx295_2 := (HB.out.cell (World.block_lt_of_cell? w _ hx295_2)).trans hx295_2
                        replace hx295_3 := (HB.out.cell (World.block_lt_of_cell? w _ hx295_3)).trans hx295_3
                        replace hx295_4 := (HB.out.cell (World.block_lt_of_cell? w _ hx295_4)).trans hx295_4
                        replace hx295_5 := (HB.out.cell (World.block_lt_of_cell? w _ hx295_5)).trans hx295_5
                        replace p295 := eq_true p295
                        replace q295 := eq_true q295
                        refine start_ (n := 10) (S := fun w' => w'.cell? ⟨gb275, 0, none⟩ = some (.string t268) ∧ w'.cell? ⟨gb275, 1, none⟩ = some (.int .i64 t269) ∧ w'.cell? ⟨gb275, 2, none⟩ = some (.int .i64 t270) ∧ w'.cell? ⟨gb275, 3, none⟩ = some (.int .i64 t271) ∧ w'.cell? ⟨gb275, 4, none⟩ = some (.int .i64 t272) ∧ w'.cell? ⟨gb275, 5, none⟩ = some (.string t273) ∧ w'.cell? (ad283.add ((x9_2).toNat * 6)) = some (.string ((rd_T34 l0 x9_2).f0)) ∧ w'.cell? ⟨(ad283.add ((x9_2).toNat * 6)).block, (ad283.add ((x9_2).toNat * 6)).off + 1, none⟩ = some (.int .i64 ((rd_T34 l0 x9_2).f1)) ∧ w'.cell? ⟨(ad283.add ((x9_2).toNat * 6)).block, (ad283.add ((x9_2).toNat * 6)).off + 2, none⟩ = some (.int .i64 ((rd_T34 l0 x9_2).f2.f0)) ∧ w'.cell? ⟨(ad283.add ((x9_2).toNat * 6)).block, (ad283.add ((x9_2).toNat * 6)).off + 3, none⟩ = some (.int .i64 ((rd_T34 l0 x9_2).f2.f1)) ∧ w'.cell? ⟨(ad283.add ((x9_2).toNat * 6)).block, (ad283.add ((x9_2).toNat * 6)).off + 4, none⟩ = some (.int .i64 ((rd_T34 l0 x9_2).f2.f2)) ∧ w'.cell? ⟨(ad283.add ((x9_2).toNat * 6)).block, (ad283.add ((x9_2).toNat * 6)).off + 5, none⟩ = some (.string ((rd_T34 l0 x9_2).f2.f3))) (ds := []) #[false, false, false, false, false, false, false, false, false, false] (by kernel_rfl) rfl rfl ⟨(blk_cell BK275.out 0).trans rfl, (blk_cell BK275.out 1).trans rfl, (blk_cell BK275.out 2).trans rfl, (blk_cell BK275.out 3).trans rfl, (blk_cell BK275.out 4).trans rfl, (blk_cell BK275.out 5).trans rfl, ((HB.out.cell (World.block_lt_of_cell? w _ hw295_0)).trans hw295_0), ((HB.out.cell (World.block_lt_of_cell? w _ hw295_1)).trans hw295_1), ((HB.out.cell (World.block_lt_of_cell? w _ hw295_2)).trans hw295_2), ((HB.out.cell (World.block_lt_of_cell? w _ hw295_3)).trans hw295_3), ((HB.out.cell (World.block_lt_of_cell? w _ hw295_4)).trans hw295_4), ((HB.out.cell (World.block_lt_of_cell? w _ hw295_5)).trans hw295_5)⟩ (fun hHeld => ?_); refine with_tabW rollcalllaw11_BestOne.tab12 rollcalllaw11_BestOne.bits12 (fun HT_ HW_ => ?_)
                        generalize w42.drew = w43 at BK275 BK281 HB hx295_0 hx295_1 hx295_2 hx295_3 hx295_4 hx295_5 hHeld ⊢
                        refine pure_ (i := 0) (N := some 54) (v := ?_) (a' := ?_) #[true, false, false, false, false, false, false, false, false, false] rfl rfl (any_of HT_.out (by kernel_rfl)) (fun _ _ _ h => h) (Or.inl ⟨by rfl, ?_⟩) ?_ ?_
                        rotate_left
                        · intro w'
                          go_simp
                          with_reducible rfl
                        rotate_left
                        · simp only [Act.put, List.setIfInBounds_toArray, List.set_cons_zero, List.set_cons_succ, i64_w, i32_w]
                          rfl
                        refine pure_ (i := 1) (N := some 55) (v := ?_) (a' := ?_) #[true, true, false, false, false, false, false, false, false, false] rfl rfl (any_of HT_.out (by kernel_rfl)) (fun _ _ _ h => h) (Or.inl ⟨by rfl, ?_⟩) ?_ ?_
                        rotate_left
                        · intro w'
                          go_simp
                          with_reducible rfl
                        rotate_left
                        · simp only [Act.put, List.setIfInBounds_toArray, List.set_cons_zero, List.set_cons_succ, i64_w, i32_w]
                          rfl
                        refine pure_ (i := 2) (N := some 56) (v := ?_) (a' := ?_) #[true, true, true, false, false, false, false, false, false, false] rfl rfl (any_of HT_.out (by kernel_rfl)) (fun _ _ _ h => h) (Or.inl ⟨by rfl, ?_⟩) ?_ ?_
                        rotate_left
                        · intro w'
                          go_simp
                          with_reducible rfl
                        rotate_left
                        · simp only [Act.put, List.setIfInBounds_toArray, List.set_cons_zero, List.set_cons_succ, i64_w, i32_w]
                          rfl
                        refine pure_ (i := 3) (N := some 57) (v := ?_) (a' := ?_) #[true, true, true, true, false, false, false, false, false, false] rfl rfl (any_of HT_.out (by kernel_rfl)) (fun _ _ _ h => h) (Or.inl ⟨by rfl, ?_⟩) ?_ ?_
                        rotate_left
                        · intro w'
                          go_simp
                          with_reducible rfl
                        rotate_left
                        · simp only [Act.put, List.setIfInBounds_toArray, List.set_cons_zero, List.set_cons_succ, i64_w, i32_w]
                          rfl
                        refine pure_ (i := 4) (N := some 58) (v := ?_) (a' := ?_) #[true, true, true, true, true, false, false, false, false, false] rfl rfl (any_of HT_.out (by kernel_rfl)) (fun _ _ _ h => h) (Or.inl ⟨by rfl, ?_⟩) ?_ ?_
                        rotate_left
                        · intro w'
                          go_simp
                          with_reducible rfl
                        rotate_left
                        · simp only [Act.put, List.setIfInBounds_toArray, List.set_cons_zero, List.set_cons_succ, i64_w, i32_w]
                          rfl
                        refine take_ (i := 5) (N := some 59) (v := ?_) (a' := ?_) #[true, true, true, true, true, true, false, false, false, false] rfl rfl (take_ofW HT_.out HW_.out (by kernel_rfl)) (fun _ _ _ h => h) (Or.inl ⟨by rfl, ?_⟩) hHeld ?_ ?_
                        rotate_left
                        · rintro w' ⟨s0, s1, s2, s3, s4, s5, s6, s7, s8, s9, s10, s11⟩
                          go_simp
                          with_reducible rfl
                        rotate_left
                        · simp only [Act.put, List.setIfInBounds_toArray, List.set_cons_zero, List.set_cons_succ, i64_w, i32_w]
                          rfl
                        refine take_ (i := 6) (N := some 60) (v := ?_) (a' := ?_) #[true, true, true, true, true, true, true, false, false, false] rfl rfl (take_ofW HT_.out HW_.out (by kernel_rfl)) (fun _ _ _ h => h) (Or.inl ⟨by rfl, ?_⟩) hHeld ?_ ?_
                        rotate_left
                        · rintro w' ⟨s0, s1, s2, s3, s4, s5, s6, s7, s8, s9, s10, s11⟩
                          go_simp
                          with_reducible rfl
                        rotate_left
                        · simp only [Act.put, List.setIfInBounds_toArray, List.set_cons_zero, List.set_cons_succ, i64_w, i32_w]
                          rfl
                        refine pure_ (i := 7) (N := some 61) (v := ?_) (a' := ?_) #[true, true, true, true, true, true, true, true, false, false] rfl rfl (any_of HT_.out (by kernel_rfl)) (fun _ _ _ h => h) (Or.inl ⟨by rfl, ?_⟩) ?_ ?_
                        rotate_left
                        · intro w'
                          go_simp
                          with_reducible rfl
                        rotate_left
                        · simp only [Act.put, List.setIfInBounds_toArray, List.set_cons_zero, List.set_cons_succ, i64_w, i32_w]
                          rfl
                        refine pure_ (i := 8) (N := some 62) (v := ?_) (a' := ?_) #[true, true, true, true, true, true, true, true, true, false] rfl rfl (any_of HT_.out (by kernel_rfl)) (fun _ _ _ h => h) (Or.inl ⟨by rfl, ?_⟩) ?_ ?_
                        rotate_left
                        · intro w'
                          go_simp
                          with_reducible rfl
                        rotate_left
                        · simp only [Act.put, List.setIfInBounds_toArray, List.set_cons_zero, List.set_cons_succ, i64_w, i32_w]
                          rfl
                        refine pure_ (i := 9) (N := some 7) (v := ?_) (a' := ?_) #[true, true, true, true, true, true, true, true, true, true] rfl rfl (any_of HT_.out (by kernel_rfl)) (fun _ _ _ h => h) (Or.inl ⟨by rfl, ?_⟩) ?_ ?_
                        rotate_left
                        · intro w'
                          go_simp
                          with_reducible rfl
                        rotate_left
                        · simp only [Act.put, List.setIfInBounds_toArray, List.set_cons_zero, List.set_cons_succ, i64_w, i32_w]
                          rfl
                        refine done_ (done_of HT_.out (by kernel_rfl)) ?_
                        try go_wp2
                        have n0_ := Aside0.mk (blk_drew BK275.out)
                        have n1_ := Aside0.mk (blk_drew BK281.out)
                        have n2_ := Aside0.mk (below_drew1 HB.out)
                        clear BK275
                        clear BK281
                        clear HB
                        have BK275 := n0_
                        have BK281 := n1_
                        have HB := n2_
                        clear n0_ n1_ n2_
                        refine start_ (n := 13) (S := fun w' => True) (ds := []) #[false, false, false, false, false, false, false, false, false, false, false, false, false] (by kernel_rfl) rfl rfl trivial (fun hHeld => ?_); refine with_tabW rollcalllaw11_BestOne.tab13 rollcalllaw11_BestOne.bits13 (fun HT_ HW_ => ?_)
                        generalize w43.drew = w44 at BK275 BK281 HB hHeld ⊢
                        refine pure_ (i := 0) (N := some 63) (v := ?_) (a' := ?_) #[true, false, false, false, false, false, false, false, false, false, false, false, false] rfl rfl (any_of HT_.out (by kernel_rfl)) (fun _ _ _ h => h) (Or.inl ⟨by rfl, ?_⟩) ?_ ?_
                        rotate_left
                        · intro w'
                          go_simp
                          with_reducible rfl
                        rotate_left
                        · simp only [Act.put, List.setIfInBounds_toArray, List.set_cons_zero, List.set_cons_succ, i64_w, i32_w]
                          rfl
                        refine pure_ (i := 1) (N := some 64) (v := ?_) (a' := ?_) #[true, true, false, false, false, false, false, false, false, false, false, false, false] rfl rfl (any_of HT_.out (by kernel_rfl)) (fun _ _ _ h => h) (Or.inl ⟨by rfl, ?_⟩) ?_ ?_
                        rotate_left
                        · intro w'
                          go_simp
                          with_reducible rfl
                        rotate_left
                        · simp only [Act.put, List.setIfInBounds_toArray, List.set_cons_zero, List.set_cons_succ, i64_w, i32_w]
                          rfl
                        refine pure_ (i := 2) (N := some 65) (v := undef) (a' := ?_) #[true, true, true, false, false, false, false, false, false, false, false, false, false] rfl rfl (any_of HT_.out (by kernel_rfl)) (fun _ _ _ h => h) (Or.inr ⟨by rfl, rfl⟩) ?_ ?_
                        rotate_left
                        · simp only [Act.put, List.setIfInBounds_toArray, List.set_cons_zero, List.set_cons_succ, i64_w, i32_w]
                          rfl
                        refine pure_ (i := 3) (N := some 66) (v := undef) (a' := ?_) #[true, true, true, true, false, false, false, false, false, false, false, false, false] rfl rfl (any_of HT_.out (by kernel_rfl)) (fun _ _ _ h => h) (Or.inr ⟨by rfl, rfl⟩) ?_ ?_
                        rotate_left
                        · simp only [Act.put, List.setIfInBounds_toArray, List.set_cons_zero, List.set_cons_succ, i64_w, i32_w]
                          rfl
                        refine pure_ (i := 4) (N := some 67) (v := undef) (a' := ?_) #[true, true, true, true, true, false, false, false, false, false, false, false, false] rfl rfl (any_of HT_.out (by kernel_rfl)) (fun _ _ _ h => h) (Or.inr ⟨by rfl, rfl⟩) ?_ ?_
                        rotate_left
                        · simp only [Act.put, List.setIfInBounds_toArray, List.set_cons_zero, List.set_cons_succ, i64_w, i32_w]
                          rfl
                        refine pure_ (i := 5) (N := some 68) (v := undef) (a' := ?_) #[true, true, true, true, true, true, false, false, false, false, false, false, false] rfl rfl (any_of HT_.out (by kernel_rfl)) (fun _ _ _ h => h) (Or.inr ⟨by rfl, rfl⟩) ?_ ?_
                        rotate_left
                        · simp only [Act.put, List.setIfInBounds_toArray, List.set_cons_zero, List.set_cons_succ, i64_w, i32_w]
                          rfl
                        refine pure_ (i := 6) (N := some 69) (v := undef) (a' := ?_) #[true, true, true, true, true, true, true, false, false, false, false, false, false] rfl rfl (any_of HT_.out (by kernel_rfl)) (fun _ _ _ h => h) (Or.inr ⟨by rfl, rfl⟩) ?_ ?_
                        rotate_left
                        · simp only [Act.put, List.setIfInBounds_toArray, List.set_cons_zero, List.set_cons_succ, i64_w, i32_w]
                          rfl
                        refine pure_ (i := 7) (N := some 70) (v := undef) (a' := ?_) #[true, true, true, true, true, true, true, true, false, false, false, false, false] rfl rfl (any_of HT_.out (by kernel_rfl)) (fun _ _ _ h => h) (Or.inr ⟨by rfl, rfl⟩) ?_ ?_
                        rotate_left
                        · simp only [Act.put, List.setIfInBounds_toArray, List.set_cons_zero, List.set_cons_succ, i64_w, i32_w]
                          rfl
                        refine pure_ (i := 8) (N := some 71) (v := undef) (a' := ?_) #[true, true, true, true, true, true, true, true, true, false, false, false, false] rfl rfl (any_of HT_.out (by kernel_rfl)) (fun _ _ _ h => h) (Or.inr ⟨by rfl, rfl⟩) ?_ ?_
                        rotate_left
                        · simp only [Act.put, List.setIfInBounds_toArray, List.set_cons_zero, List.set_cons_succ, i64_w, i32_w]
                          rfl
                        refine pure_ (i := 9) (N := some 72) (v := undef) (a' := ?_) #[true, true, true, true, true, true, true, true, true, true, false, false, false] rfl rfl (any_of HT_.out (by kernel_rfl)) (fun _ _ _ h => h) (Or.inr ⟨by rfl, rfl⟩) ?_ ?_
                        rotate_left
                        · simp only [Act.put, List.setIfInBounds_toArray, List.set_cons_zero, List.set_cons_succ, i64_w, i32_w]
                          rfl
                        refine pure_ (i := 10) (N := some 73) (v := undef) (a' := ?_) #[true, true, true, true, true, true, true, true, true, true, true, false, false] rfl rfl (any_of HT_.out (by kernel_rfl)) (fun _ _ _ h => h) (Or.inr ⟨by rfl, rfl⟩) ?_ ?_
                        rotate_left
                        · simp only [Act.put, List.setIfInBounds_toArray, List.set_cons_zero, List.set_cons_succ, i64_w, i32_w]
                          rfl
                        refine pure_ (i := 11) (N := some 74) (v := ?_) (a' := ?_) #[true, true, true, true, true, true, true, true, true, true, true, true, false] rfl rfl (any_of HT_.out (by kernel_rfl)) (fun _ _ _ h => h) (Or.inl ⟨by rfl, ?_⟩) ?_ ?_
                        rotate_left
                        · intro w'
                          go_simp
                          with_reducible rfl
                        rotate_left
                        · simp only [Act.put, List.setIfInBounds_toArray, List.set_cons_zero, List.set_cons_succ, i64_w, i32_w]
                          rfl
                        refine pure_ (i := 12) (N := some 8) (v := ?_) (a' := ?_) #[true, true, true, true, true, true, true, true, true, true, true, true, true] rfl rfl (any_of HT_.out (by kernel_rfl)) (fun _ _ _ h => h) (Or.inl ⟨by rfl, ?_⟩) ?_ ?_
                        rotate_left
                        · intro w'
                          go_simp
                          with_reducible rfl
                        rotate_left
                        · simp only [Act.put, List.setIfInBounds_toArray, List.set_cons_zero, List.set_cons_succ, i64_w, i32_w]
                          rfl
                        refine done_ (done_of HT_.out (by kernel_rfl)) ?_
                        try go_wp2
                        go_roundg k2
                        case measure => have := HJ1.out; have := HK2.out; omega
                        case rel => exact ⟨(((((rd_T34 l0 x9_2).f0).toList) == t268.toList && (((rd_T34 l0 x9_2).f1) == t269 && ((((rd_T34 l0 x9_2).f2.f0) == t270 && (((rd_T34 l0 x9_2).f2.f1) == t271 && (((rd_T34 l0 x9_2).f2.f2) == t272 && ((((rd_T34 l0 x9_2).f2.f3).toList) == t273.toList)))))))), (true), (wrap64 (x9_2 + 1)), (by first | rfl | (simp; done) | (simp [*]; done)), (by first | rfl | (simp; done) | (simp [*]; done)), (by first | rfl | (simp; done) | (simp [*]; done)), H', ⟨by have := HJ1.out; have := HK2.out; omega⟩, ⟨by (with_reducible repeat (first | refine blk_drewN ?_ _ | refine blk_drew ?_ | refine blk_alloc ?_ _)); exact BK275.out⟩, ⟨by (with_reducible repeat (first | refine blk_drewN ?_ _ | refine blk_drew ?_ | refine blk_alloc ?_ _)); exact BK281.out⟩, ⟨by repeat (first | (with_reducible first | exact HB.out | apply below_alloc | apply pw_below_drewN | apply below_drew1 | refine below_set ?_ GE275.out | refine below_set ?_ GE281.out) | exact HB.out)⟩⟩
                      · replace c38 := Bool.eq_false_iff.mpr c38
                        subst c38
                        have H1 : (rollcalllaw11_BestOne.l0 k2 l0 t274 t280 ((((rd_T34 l0 x9_2).f0).toList) == t268.toList && (((rd_T34 l0 x9_2).f1) == t269 && ((((rd_T34 l0 x9_2).f2.f0) == t270 && (((rd_T34 l0 x9_2).f2.f1) == t271 && (((rd_T34 l0 x9_2).f2.f2) == t272 && ((((rd_T34 l0 x9_2).f2.f3).toList) == t273.toList))))))) (((rd_T34 l0 x9_2).f2.f0) == t276) (wrap64 (x9_2 + 1)) t268 t269 t270 t271 t272 t273 t276 t277 t278 t279) = some r := by rw [if_neg (show ¬ (false = true) by decide)] at H; exact H
                        clear H
                        have H := H1
                        clear H1
                        have H' := Aside0.mk H
                        clear H
                        try go_wp2
                        have n0_ := Aside0.mk (blk_drew BK275.out)
                        have n1_ := Aside0.mk (blk_drew BK281.out)
                        have n2_ := Aside0.mk (below_drew1 HB.out)
                        clear BK275
                        clear BK281
                        clear HB
                        have BK275 := n0_
                        have BK281 := n1_
                        have HB := n2_
                        clear n0_ n1_ n2_
                        have p283 : 0 ≤ (x9_2 : Int) := of_decide_eq_true (by first | (with_reducible assumption) | assumption)
                        have q283 : x9_2 < (l0.length : Int) := of_decide_eq_true (by first | (with_reducible assumption) | assumption)
                        obtain ⟨ad283, e283, hx283_0, hx283_1, hx283_2, hx283_3, hx283_4, hx283_5⟩ := at_T34 HR0.out x9_2 p283 q283
                        have hw283_5 := hx283_5
                        have hw283_4 := hx283_4
                        have hw283_3 := hx283_3
                        have hw283_2 := hx283_2
                        have hw283_1 := hx283_1
                        have hw283_0 := hx283_0
                        cases e283
                        replace hx283_0 := (HB.out.cell (World.block_lt_of_cell? w _ hx283_0)).trans hx283_0
                        replace hx283_1 := (HB.out.cell (World.block_lt_of_cell? w _ hx283_1)).trans hx283_1
                        replace hx283_2 := (HB.out.cell (World.block_lt_of_cell? w _ hx283_2)).trans hx283_2
                        replace hx283_3 := (HB.out.cell (World.block_lt_of_cell? w _ hx283_3)).trans hx283_3
                        replace hx283_4 := (HB.out.cell (World.block_lt_of_cell? w _ hx283_4)).trans hx283_4
                        replace hx283_5 := (HB.out.cell (World.block_lt_of_cell? w _ hx283_5)).trans hx283_5
                        replace p283 := eq_true p283
                        replace q283 := eq_true q283
                        have p293 : 0 ≤ (x9_2 : Int) := of_decide_eq_true (by first | (with_reducible assumption) | assumption)
                        have q293 : x9_2 < (l0.length : Int) := of_decide_eq_true (by first | (with_reducible assumption) | assumption)
                        obtain ⟨ad293, e293, hx293_0, hx293_1, hx293_2, hx293_3, hx293_4, hx293_5⟩ := at_T34 HR0.out x9_2 p293 q293
                        have hw293_5 := hx293_5
                        have hw293_4 := hx293_4
                        have hw293_3 := hx293_3
                        have hw293_2 := hx293_2
                        have hw293_1 := hx293_1
                        have hw293_0 := hx293_0
                        obtain rfl : ad283 = ad293 := (by injection e293)
                        replace hx293_0 := (HB.out.cell (World.block_lt_of_cell? w _ hx293_0)).trans hx293_0
                        replace hx293_1 := (HB.out.cell (World.block_lt_of_cell? w _ hx293_1)).trans hx293_1
                        replace hx293_2 := (HB.out.cell (World.block_lt_of_cell? w _ hx293_2)).trans hx293_2
                        replace hx293_3 := (HB.out.cell (World.block_lt_of_cell? w _ hx293_3)).trans hx293_3
                        replace hx293_4 := (HB.out.cell (World.block_lt_of_cell? w _ hx293_4)).trans hx293_4
                        replace hx293_5 := (HB.out.cell (World.block_lt_of_cell? w _ hx293_5)).trans hx293_5
                        replace p293 := eq_true p293
                        replace q293 := eq_true q293
                        refine start_ (n := 19) (S := fun w' => w'.cell? ⟨gb275, 0, none⟩ = some (.string t268) ∧ w'.cell? ⟨gb275, 1, none⟩ = some (.int .i64 t269) ∧ w'.cell? ⟨gb275, 2, none⟩ = some (.int .i64 t270) ∧ w'.cell? ⟨gb275, 3, none⟩ = some (.int .i64 t271) ∧ w'.cell? ⟨gb275, 4, none⟩ = some (.int .i64 t272) ∧ w'.cell? ⟨gb275, 5, none⟩ = some (.string t273) ∧ w'.cell? ⟨gb281, 0, none⟩ = some (.int .i64 t276) ∧ w'.cell? ⟨gb281, 1, none⟩ = some (.int .i64 t277) ∧ w'.cell? ⟨gb281, 2, none⟩ = some (.int .i64 t278) ∧ w'.cell? ⟨gb281, 3, none⟩ = some (.string t279) ∧ w'.cell? (ad283.add ((x9_2).toNat * 6)) = some (.string ((rd_T34 l0 x9_2).f0)) ∧ w'.cell? ⟨(ad283.add ((x9_2).toNat * 6)).block, (ad283.add ((x9_2).toNat * 6)).off + 1, none⟩ = some (.int .i64 ((rd_T34 l0 x9_2).f1)) ∧ w'.cell? ⟨(ad283.add ((x9_2).toNat * 6)).block, (ad283.add ((x9_2).toNat * 6)).off + 2, none⟩ = some (.int .i64 ((rd_T34 l0 x9_2).f2.f0)) ∧ w'.cell? ⟨(ad283.add ((x9_2).toNat * 6)).block, (ad283.add ((x9_2).toNat * 6)).off + 3, none⟩ = some (.int .i64 ((rd_T34 l0 x9_2).f2.f1)) ∧ w'.cell? ⟨(ad283.add ((x9_2).toNat * 6)).block, (ad283.add ((x9_2).toNat * 6)).off + 4, none⟩ = some (.int .i64 ((rd_T34 l0 x9_2).f2.f2)) ∧ w'.cell? ⟨(ad283.add ((x9_2).toNat * 6)).block, (ad283.add ((x9_2).toNat * 6)).off + 5, none⟩ = some (.string ((rd_T34 l0 x9_2).f2.f3)) ∧ w'.cell? (ad283.add ((x9_2).toNat * 6)) = some (.string ((rd_T34 l0 x9_2).f0)) ∧ w'.cell? ⟨(ad283.add ((x9_2).toNat * 6)).block, (ad283.add ((x9_2).toNat * 6)).off + 1, none⟩ = some (.int .i64 ((rd_T34 l0 x9_2).f1)) ∧ w'.cell? ⟨(ad283.add ((x9_2).toNat * 6)).block, (ad283.add ((x9_2).toNat * 6)).off + 2, none⟩ = some (.int .i64 ((rd_T34 l0 x9_2).f2.f0)) ∧ w'.cell? ⟨(ad283.add ((x9_2).toNat * 6)).block, (ad283.add ((x9_2).toNat * 6)).off + 3, none⟩ = some (.int .i64 ((rd_T34 l0 x9_2).f2.f1)) ∧ w'.cell? ⟨(ad283.add ((x9_2).toNat * 6)).block, (ad283.add ((x9_2).toNat * 6)).off + 4, none⟩ = some (.int .i64 ((rd_T34 l0 x9_2).f2.f2)) ∧ w'.cell? ⟨(ad283.add ((x9_2).toNat * 6)).block, (ad283.add ((x9_2).toNat * 6)).off + 5, none⟩ = some (.string ((rd_T34 l0 x9_2).f2.f3))) (ds := []) #[false, false, false, false, false, false, false, false, false, false, false, false, false, false, false, false, false, false, false] (by kernel_rfl) rfl rfl ⟨(blk_cell BK275.out 0).trans rfl, (blk_cell BK275.out 1).trans rfl, (blk_cell BK275.out 2).trans rfl, (blk_cell BK275.out 3).trans rfl, (blk_cell BK275.out 4).trans rfl, (blk_cell BK275.out 5).trans rfl, (blk_cell BK281.out 0).trans rfl, (blk_cell BK281.out 1).trans rfl, (blk_cell BK281.out 2).trans rfl, (blk_cell BK281.out 3).trans rfl, ((HB.out.cell (World.block_lt_of_cell? w _ hw283_0)).trans hw283_0), ((HB.out.cell (World.block_lt_of_cell? w _ hw283_1)).trans hw283_1), ((HB.out.cell (World.block_lt_of_cell? w _ hw283_2)).trans hw283_2), ((HB.out.cell (World.block_lt_of_cell? w _ hw283_3)).trans hw283_3), ((HB.out.cell (World.block_lt_of_cell? w _ hw283_4)).trans hw283_4), ((HB.out.cell (World.block_lt_of_cell? w _ hw283_5)).trans hw283_5), ((HB.out.cell (World.block_lt_of_cell? w _ hw293_0)).trans hw293_0), ((HB.out.cell (World.block_lt_of_cell? w _ hw293_1)).trans hw293_1), ((HB.out.cell (World.block_lt_of_cell? w _ hw293_2)).trans hw293_2), ((HB.out.cell (World.block_lt_of_cell? w _ hw293_3)).trans hw293_3), ((HB.out.cell (World.block_lt_of_cell? w _ hw293_4)).trans hw293_4), ((HB.out.cell (World.block_lt_of_cell? w _ hw293_5)).trans hw293_5)⟩ (fun hHeld => ?_); refine with_tabW rollcalllaw11_BestOne.tab10 rollcalllaw11_BestOne.bits10 (fun HT_ HW_ => ?_)
                        generalize wr.drew = w45 at BK275 BK281 HB hx283_0 hx283_1 hx283_2 hx283_3 hx283_4 hx283_5 hx293_0 hx293_1 hx293_2 hx293_3 hx293_4 hx293_5 hHeld ⊢
                        refine pure_ (i := 0) (N := some 35) (v := ?_) (a' := ?_) #[true, false, false, false, false, false, false, false, false, false, false, false, false, false, false, false, false, false, false] rfl rfl (any_of HT_.out (by kernel_rfl)) (fun _ _ _ h => h) (Or.inl ⟨by rfl, ?_⟩) ?_ ?_
                        rotate_left
                        · intro w'
                          go_simp
                          with_reducible rfl
                        rotate_left
                        · simp only [Act.put, List.setIfInBounds_toArray, List.set_cons_zero, List.set_cons_succ, i64_w, i32_w]
                          rfl
                        refine pure_ (i := 1) (N := some 36) (v := ?_) (a' := ?_) #[true, true, false, false, false, false, false, false, false, false, false, false, false, false, false, false, false, false, false] rfl rfl (any_of HT_.out (by kernel_rfl)) (fun _ _ _ h => h) (Or.inl ⟨by rfl, ?_⟩) ?_ ?_
                        rotate_left
                        · intro w'
                          go_simp
                          with_reducible rfl
                        rotate_left
                        · simp only [Act.put, List.setIfInBounds_toArray, List.set_cons_zero, List.set_cons_succ, i64_w, i32_w]
                          rfl
                        refine pure_ (i := 2) (N := some 37) (v := ?_) (a' := ?_) #[true, true, true, false, false, false, false, false, false, false, false, false, false, false, false, false, false, false, false] rfl rfl (any_of HT_.out (by kernel_rfl)) (fun _ _ _ h => h) (Or.inl ⟨by rfl, ?_⟩) ?_ ?_
                        rotate_left
                        · intro w'
                          go_simp
                          with_reducible rfl
                        rotate_left
                        · simp only [Act.put, List.setIfInBounds_toArray, List.set_cons_zero, List.set_cons_succ, i64_w, i32_w]
                          rfl
                        refine take_ (i := 3) (N := some 38) (v := ?_) (a' := ?_) #[true, true, true, true, false, false, false, false, false, false, false, false, false, false, false, false, false, false, false] rfl rfl (take_ofW HT_.out HW_.out (by kernel_rfl)) (fun _ _ _ h => h) (Or.inl ⟨by rfl, ?_⟩) hHeld ?_ ?_
                        rotate_left
                        · rintro w' ⟨s0, s1, s2, s3, s4, s5, s6, s7, s8, s9, s10, s11, s12, s13, s14, s15, s16, s17, s18, s19, s20, s21⟩
                          go_simp
                          with_reducible rfl
                        rotate_left
                        · simp only [Act.put, List.setIfInBounds_toArray, List.set_cons_zero, List.set_cons_succ, i64_w, i32_w]
                          rfl
                        refine take_ (i := 5) (N := some 40) (v := ?_) (a' := ?_) #[true, true, true, true, false, true, false, false, false, false, false, false, false, false, false, false, false, false, false] rfl rfl (take_ofW HT_.out HW_.out (by kernel_rfl)) (fun _ _ _ h => h) (Or.inl ⟨by rfl, ?_⟩) hHeld ?_ ?_
                        rotate_left
                        · rintro w' ⟨s0, s1, s2, s3, s4, s5, s6, s7, s8, s9, s10, s11, s12, s13, s14, s15, s16, s17, s18, s19, s20, s21⟩
                          go_simp
                          with_reducible rfl
                        rotate_left
                        · simp only [Act.put, List.setIfInBounds_toArray, List.set_cons_zero, List.set_cons_succ, i64_w, i32_w]
                          rfl
                        refine one_ (i := 4) (N := some 39) #[true, true, true, true, true, true, false, false, false, false, false, false, false, false, false, false, false, false, false] rfl rfl (one_of HT_.out (by kernel_rfl)) (by decide) (fun K hK => ?_)
                        refine goes_ Try.func11 (by kernel_rfl) rfl #[.agg #[.string ((rd_T34 l0 x9_2).f0), .int .i64 ((rd_T34 l0 x9_2).f1), .int .i64 ((rd_T34 l0 x9_2).f2.f0), .int .i64 ((rd_T34 l0 x9_2).f2.f1), .int .i64 ((rd_T34 l0 x9_2).f2.f2), .string ((rd_T34 l0 x9_2).f2.f3)]] (by rfl) rfl rfl (by (try simp only [List.map_toArray, List.map_cons, List.map_nil]); first | done | rfl | (simp only [List.length_drop, List.length_take]; rfl)) ?_
                        with_reducible refine (best_Slot.calls ((rd_T34 l0 x9_2).f0) ((rd_T34 l0 x9_2).f1) ((rd_T34 l0 x9_2).f2.f0) ((rd_T34 l0 x9_2).f2.f1) ((rd_T34 l0 x9_2).f2.f2) ((rd_T34 l0 x9_2).f2.f3) t284 t285 t286 t287 _ A19.out).mono ?_
                        rintro e w46 ⟨rfl, hb⟩
                        refine ⟨_, rfl, ?_⟩
                        have n0_ := Aside0.mk (blk_below (g := gb275) (o := .cells #[.string t268, .int .i64 t269, .int .i64 t270, .int .i64 t271, .int .i64 t272, .string t273] 34 (0, 0)) (by (with_reducible repeat (first | refine blk_drewN ?_ _ | refine blk_drew ?_ | refine blk_alloc ?_ _)); exact BK275.out) hb)
                        have n1_ := Aside0.mk (blk_below (g := gb281) (o := .cells #[.int .i64 t276, .int .i64 t277, .int .i64 t278, .string t279] 24 (0, 0)) (by (with_reducible repeat (first | refine blk_drewN ?_ _ | refine blk_drew ?_ | refine blk_alloc ?_ _)); exact BK281.out) hb)
                        have n2_ := Aside0.mk (below_step (by repeat (first | (with_reducible first | exact HB.out | apply below_alloc | apply pw_below_drewN | apply below_drew1 | refine below_set ?_ GE275.out | refine below_set ?_ GE281.out) | exact HB.out)) hb)
                        clear BK275
                        clear BK281
                        clear HB
                        have BK275 := n0_
                        have BK281 := n1_
                        have HB := n2_
                        clear n0_ n1_ n2_
                        (try clear hb)
                        (try clear hb2)
                        (try clear hk)
                        (try clear hi)
                        refine hK.out _ _ ⟨(blk_cell BK275.out 0).trans rfl, (blk_cell BK275.out 1).trans rfl, (blk_cell BK275.out 2).trans rfl, (blk_cell BK275.out 3).trans rfl, (blk_cell BK275.out 4).trans rfl, (blk_cell BK275.out 5).trans rfl, (blk_cell BK281.out 0).trans rfl, (blk_cell BK281.out 1).trans rfl, (blk_cell BK281.out 2).trans rfl, (blk_cell BK281.out 3).trans rfl, ((HB.out.cell (World.block_lt_of_cell? w _ hw283_0)).trans hw283_0), ((HB.out.cell (World.block_lt_of_cell? w _ hw283_1)).trans hw283_1), ((HB.out.cell (World.block_lt_of_cell? w _ hw283_2)).trans hw283_2), ((HB.out.cell (World.block_lt_of_cell? w _ hw283_3)).trans hw283_3), ((HB.out.cell (World.block_lt_of_cell? w _ hw283_4)).trans hw283_4), ((HB.out.cell (World.block_lt_of_cell? w _ hw283_5)).trans hw283_5), ((HB.out.cell (World.block_lt_of_cell? w _ hw293_0)).trans hw293_0), ((HB.out.cell (World.block_lt_of_cell? w _ hw293_1)).trans hw293_1), ((HB.out.cell (World.block_lt_of_cell? w _ hw293_2)).trans hw293_2), ((HB.out.cell (World.block_lt_of_cell? w _ hw293_3)).trans hw293_3), ((HB.out.cell (World.block_lt_of_cell? w _ hw293_4)).trans hw293_4), ((HB.out.cell (World.block_lt_of_cell? w _ hw293_5)).trans hw293_5)⟩ (fun hHeld => ?_)
                        clear hK K
                        refine norm_ (a' := ?_) ?_ ?_
                        rotate_left
                        · show Act.put _ (some 39) _ = _
                          simp only [Act.put, List.setIfInBounds_toArray, List.set_cons_zero, List.set_cons_succ, i64_w, i32_w]
                          rfl
                        refine one_ (i := 6) (N := some 41) #[true, true, true, true, true, true, true, false, false, false, false, false, false, false, false, false, false, false, false] rfl rfl (one_of HT_.out (by kernel_rfl)) (by decide) (fun K hK => ?_)
                        refine goes_ Try.func11 (by kernel_rfl) rfl #[.agg #[.string t268, .int .i64 t269, .int .i64 t270, .int .i64 t271, .int .i64 t272, .string t273]] (by rfl) rfl rfl (by (try simp only [List.map_toArray, List.map_cons, List.map_nil]); first | done | rfl | (simp only [List.length_drop, List.length_take]; rfl)) ?_
                        with_reducible refine (best_Slot.calls t268 t269 t270 t271 t272 t273 t288 t289 t290 t291 _ A20.out).mono ?_
                        rintro e w47 ⟨rfl, hb⟩
                        refine ⟨_, rfl, ?_⟩
                        have n0_ := Aside0.mk (blk_below (g := gb275) (o := .cells #[.string t268, .int .i64 t269, .int .i64 t270, .int .i64 t271, .int .i64 t272, .string t273] 34 (0, 0)) (by (with_reducible repeat (first | refine blk_drewN ?_ _ | refine blk_drew ?_ | refine blk_alloc ?_ _)); exact BK275.out) hb)
                        have n1_ := Aside0.mk (blk_below (g := gb281) (o := .cells #[.int .i64 t276, .int .i64 t277, .int .i64 t278, .string t279] 24 (0, 0)) (by (with_reducible repeat (first | refine blk_drewN ?_ _ | refine blk_drew ?_ | refine blk_alloc ?_ _)); exact BK281.out) hb)
                        have n2_ := Aside0.mk (below_step (by repeat (first | (with_reducible first | exact HB.out | apply below_alloc | apply pw_below_drewN | apply below_drew1 | refine below_set ?_ GE275.out | refine below_set ?_ GE281.out) | exact HB.out)) hb)
                        clear BK275
                        clear BK281
                        clear HB
                        have BK275 := n0_
                        have BK281 := n1_
                        have HB := n2_
                        clear n0_ n1_ n2_
                        (try clear hb)
                        (try clear hb2)
                        (try clear hk)
                        (try clear hi)
                        refine hK.out _ _ ⟨(blk_cell BK275.out 0).trans rfl, (blk_cell BK275.out 1).trans rfl, (blk_cell BK275.out 2).trans rfl, (blk_cell BK275.out 3).trans rfl, (blk_cell BK275.out 4).trans rfl, (blk_cell BK275.out 5).trans rfl, (blk_cell BK281.out 0).trans rfl, (blk_cell BK281.out 1).trans rfl, (blk_cell BK281.out 2).trans rfl, (blk_cell BK281.out 3).trans rfl, ((HB.out.cell (World.block_lt_of_cell? w _ hw283_0)).trans hw283_0), ((HB.out.cell (World.block_lt_of_cell? w _ hw283_1)).trans hw283_1), ((HB.out.cell (World.block_lt_of_cell? w _ hw283_2)).trans hw283_2), ((HB.out.cell (World.block_lt_of_cell? w _ hw283_3)).trans hw283_3), ((HB.out.cell (World.block_lt_of_cell? w _ hw283_4)).trans hw283_4), ((HB.out.cell (World.block_lt_of_cell? w _ hw283_5)).trans hw283_5), ((HB.out.cell (World.block_lt_of_cell? w _ hw293_0)).trans hw293_0), ((HB.out.cell (World.block_lt_of_cell? w _ hw293_1)).trans hw293_1), ((HB.out.cell (World.block_lt_of_cell? w _ hw293_2)).trans hw293_2), ((HB.out.cell (World.block_lt_of_cell? w _ hw293_3)).trans hw293_3), ((HB.out.cell (World.block_lt_of_cell? w _ hw293_4)).trans hw293_4), ((HB.out.cell (World.block_lt_of_cell? w _ hw293_5)).trans hw293_5)⟩ (fun hHeld => ?_)
                        clear hK K
                        refine norm_ (a' := ?_) ?_ ?_
                        rotate_left
                        · show Act.put _ (some 41) _ = _
                          simp only [Act.put, List.setIfInBounds_toArray, List.set_cons_zero, List.set_cons_succ, i64_w, i32_w]
                          rfl
                        refine one_ (i := 7) (N := some 42) #[true, true, true, true, true, true, true, true, false, false, false, false, false, false, false, false, false, false, false] rfl rfl (one_of HT_.out (by kernel_rfl)) (by decide) (fun K hK => ?_)
                        refine goes_ Try.func21 (by kernel_rfl) rfl #[.agg #[.int .i64 t284, .int .i64 t285, .int .i64 t286, .int .i64 t287], .agg #[.int .i64 t288, .int .i64 t289, .int .i64 t290, .int .i64 t291]] (by rfl) rfl rfl (by (try simp only [List.map_toArray, List.map_cons, List.map_nil]); first | done | rfl | (simp only [List.length_drop, List.length_take]; rfl)) ?_
                        with_reducible refine (heap_Better.calls t284 t285 t286 t287 t288 t289 t290 t291 false _ A21.out).mono ?_
                        rintro e w48 ⟨rfl, hb⟩
                        refine ⟨_, rfl, ?_⟩
                        have n0_ := Aside0.mk (blk_below (g := gb275) (o := .cells #[.string t268, .int .i64 t269, .int .i64 t270, .int .i64 t271, .int .i64 t272, .string t273] 34 (0, 0)) (by (with_reducible repeat (first | refine blk_drewN ?_ _ | refine blk_drew ?_ | refine blk_alloc ?_ _)); exact BK275.out) hb)
                        have n1_ := Aside0.mk (blk_below (g := gb281) (o := .cells #[.int .i64 t276, .int .i64 t277, .int .i64 t278, .string t279] 24 (0, 0)) (by (with_reducible repeat (first | refine blk_drewN ?_ _ | refine blk_drew ?_ | refine blk_alloc ?_ _)); exact BK281.out) hb)
                        have n2_ := Aside0.mk (below_step (by repeat (first | (with_reducible first | exact HB.out | apply below_alloc | apply pw_below_drewN | apply below_drew1 | refine below_set ?_ GE275.out | refine below_set ?_ GE281.out) | exact HB.out)) hb)
                        clear BK275
                        clear BK281
                        clear HB
                        have BK275 := n0_
                        have BK281 := n1_
                        have HB := n2_
                        clear n0_ n1_ n2_
                        (try clear hb)
                        (try clear hb2)
                        (try clear hk)
                        (try clear hi)
                        refine hK.out _ _ ⟨(blk_cell BK275.out 0).trans rfl, (blk_cell BK275.out 1).trans rfl, (blk_cell BK275.out 2).trans rfl, (blk_cell BK275.out 3).trans rfl, (blk_cell BK275.out 4).trans rfl, (blk_cell BK275.out 5).trans rfl, (blk_cell BK281.out 0).trans rfl, (blk_cell BK281.out 1).trans rfl, (blk_cell BK281.out 2).trans rfl, (blk_cell BK281.out 3).trans rfl, ((HB.out.cell (World.block_lt_of_cell? w _ hw283_0)).trans hw283_0), ((HB.out.cell (World.block_lt_of_cell? w _ hw283_1)).trans hw283_1), ((HB.out.cell (World.block_lt_of_cell? w _ hw283_2)).trans hw283_2), ((HB.out.cell (World.block_lt_of_cell? w _ hw283_3)).trans hw283_3), ((HB.out.cell (World.block_lt_of_cell? w _ hw283_4)).trans hw283_4), ((HB.out.cell (World.block_lt_of_cell? w _ hw283_5)).trans hw283_5), ((HB.out.cell (World.block_lt_of_cell? w _ hw293_0)).trans hw293_0), ((HB.out.cell (World.block_lt_of_cell? w _ hw293_1)).trans hw293_1), ((HB.out.cell (World.block_lt_of_cell? w _ hw293_2)).trans hw293_2), ((HB.out.cell (World.block_lt_of_cell? w _ hw293_3)).trans hw293_3), ((HB.out.cell (World.block_lt_of_cell? w _ hw293_4)).trans hw293_4), ((HB.out.cell (World.block_lt_of_cell? w _ hw293_5)).trans hw293_5)⟩ (fun hHeld => ?_)
                        clear hK K
                        refine norm_ (a' := ?_) ?_ ?_
                        rotate_left
                        · show Act.put _ (some 42) _ = _
                          simp only [Act.put, List.setIfInBounds_toArray, List.set_cons_zero, List.set_cons_succ, i64_w, i32_w]
                          rfl
                        refine pure_ (i := 8) (N := some 43) (v := ?_) (a' := ?_) #[true, true, true, true, true, true, true, true, true, false, false, false, false, false, false, false, false, false, false] rfl rfl (any_of HT_.out (by kernel_rfl)) (fun _ _ _ h => h) (Or.inl ⟨by rfl, ?_⟩) ?_ ?_
                        rotate_left
                        · intro w'
                          go_simp
                          with_reducible rfl
                        rotate_left
                        · simp only [Act.put, List.setIfInBounds_toArray, List.set_cons_zero, List.set_cons_succ, i64_w, i32_w]
                          rfl
                        refine pure_ (i := 9) (N := some 44) (v := ?_) (a' := ?_) #[true, true, true, true, true, true, true, true, true, true, false, false, false, false, false, false, false, false, false] rfl rfl (any_of HT_.out (by kernel_rfl)) (fun _ _ _ h => h) (Or.inl ⟨by rfl, ?_⟩) ?_ ?_
                        rotate_left
                        · intro w'
                          go_simp
                          with_reducible rfl
                        rotate_left
                        · simp only [Act.put, List.setIfInBounds_toArray, List.set_cons_zero, List.set_cons_succ, i64_w, i32_w]
                          rfl
                        refine pure_ (i := 10) (N := some 45) (v := ?_) (a' := ?_) #[true, true, true, true, true, true, true, true, true, true, true, false, false, false, false, false, false, false, false] rfl rfl (any_of HT_.out (by kernel_rfl)) (fun _ _ _ h => h) (Or.inl ⟨by rfl, ?_⟩) ?_ ?_
                        rotate_left
                        · intro w'
                          go_simp
                          with_reducible rfl
                        rotate_left
                        · simp only [Act.put, List.setIfInBounds_toArray, List.set_cons_zero, List.set_cons_succ, i64_w, i32_w]
                          rfl
                        refine pure_ (i := 11) (N := some 46) (v := ?_) (a' := ?_) #[true, true, true, true, true, true, true, true, true, true, true, true, false, false, false, false, false, false, false] rfl rfl (any_of HT_.out (by kernel_rfl)) (fun _ _ _ h => h) (Or.inl ⟨by rfl, ?_⟩) ?_ ?_
                        rotate_left
                        · intro w'
                          go_simp
                          with_reducible rfl
                        rotate_left
                        · simp only [Act.put, List.setIfInBounds_toArray, List.set_cons_zero, List.set_cons_succ, i64_w, i32_w]
                          rfl
                        refine pure_ (i := 12) (N := some 47) (v := ?_) (a' := ?_) #[true, true, true, true, true, true, true, true, true, true, true, true, true, false, false, false, false, false, false] rfl rfl (any_of HT_.out (by kernel_rfl)) (fun _ _ _ h => h) (Or.inl ⟨by rfl, ?_⟩) ?_ ?_
                        rotate_left
                        · intro w'
                          go_simp
                          with_reducible rfl
                        rotate_left
                        · simp only [Act.put, List.setIfInBounds_toArray, List.set_cons_zero, List.set_cons_succ, i64_w, i32_w]
                          rfl
                        refine pure_ (i := 13) (N := some 48) (v := ?_) (a' := ?_) #[true, true, true, true, true, true, true, true, true, true, true, true, true, true, false, false, false, false, false] rfl rfl (any_of HT_.out (by kernel_rfl)) (fun _ _ _ h => h) (Or.inl ⟨by rfl, ?_⟩) ?_ ?_
                        rotate_left
                        · intro w'
                          go_simp
                          with_reducible rfl
                        rotate_left
                        · simp only [Act.put, List.setIfInBounds_toArray, List.set_cons_zero, List.set_cons_succ, i64_w, i32_w]
                          rfl
                        refine pure_ (i := 15) (N := some 50) (v := ?_) (a' := ?_) #[true, true, true, true, true, true, true, true, true, true, true, true, true, true, false, true, false, false, false] rfl rfl (any_of HT_.out (by kernel_rfl)) (fun _ _ _ h => h) (Or.inl ⟨by rfl, ?_⟩) ?_ ?_
                        rotate_left
                        · intro w'
                          go_simp
                          with_reducible rfl
                        rotate_left
                        · simp only [Act.put, List.setIfInBounds_toArray, List.set_cons_zero, List.set_cons_succ, i64_w, i32_w]
                          rfl
                        refine take_ (i := 14) (N := some 49) (v := ?_) (a' := ?_) #[true, true, true, true, true, true, true, true, true, true, true, true, true, true, true, true, false, false, false] rfl rfl (take_ofW HT_.out HW_.out (by kernel_rfl)) (fun _ _ _ h => h) (Or.inl ⟨by rfl, ?_⟩) hHeld ?_ ?_
                        rotate_left
                        · rintro w' ⟨s0, s1, s2, s3, s4, s5, s6, s7, s8, s9, s10, s11, s12, s13, s14, s15, s16, s17, s18, s19, s20, s21⟩
                          go_simp
                          with_reducible rfl
                        rotate_left
                        · simp only [Act.put, List.setIfInBounds_toArray, List.set_cons_zero, List.set_cons_succ, i64_w, i32_w]
                          rfl
                        refine take_ (i := 16) (N := some 51) (v := ?_) (a' := ?_) #[true, true, true, true, true, true, true, true, true, true, true, true, true, true, true, true, true, false, false] rfl rfl (take_ofW HT_.out HW_.out (by kernel_rfl)) (fun _ _ _ h => h) (Or.inl ⟨by rfl, ?_⟩) hHeld ?_ ?_
                        rotate_left
                        · rintro w' ⟨s0, s1, s2, s3, s4, s5, s6, s7, s8, s9, s10, s11, s12, s13, s14, s15, s16, s17, s18, s19, s20, s21⟩
                          go_simp
                          with_reducible rfl
                        rotate_left
                        · simp only [Act.put, List.setIfInBounds_toArray, List.set_cons_zero, List.set_cons_succ, i64_w, i32_w]
                          rfl
                        refine pure_ (i := 17) (N := some 52) (v := ?_) (a' := ?_) #[true, true, true, true, true, true, true, true, true, true, true, true, true, true, true, true, true, true, false] rfl rfl (any_of HT_.out (by kernel_rfl)) (fun _ _ _ h => h) (Or.inl ⟨by rfl, ?_⟩) ?_ ?_
                        rotate_left
                        · intro w'
                          go_simp
                          with_reducible rfl
                        rotate_left
                        · simp only [Act.put, List.setIfInBounds_toArray, List.set_cons_zero, List.set_cons_succ, i64_w, i32_w]
                          rfl
                        refine pure_ (i := 18) (N := some 53) (v := ?_) (a' := ?_) #[true, true, true, true, true, true, true, true, true, true, true, true, true, true, true, true, true, true, true] rfl rfl (any_of HT_.out (by kernel_rfl)) (fun _ _ _ h => h) (Or.inl ⟨by rfl, ?_⟩) ?_ ?_
                        rotate_left
                        · intro w'
                          go_simp
                          with_reducible rfl
                        rotate_left
                        · simp only [Act.put, List.setIfInBounds_toArray, List.set_cons_zero, List.set_cons_succ, i64_w, i32_w]
                          rfl
                        refine done_ (done_of HT_.out (by kernel_rfl)) ?_
                        try go_wp2
                        have n0_ := Aside0.mk (blk_drew BK275.out)
                        have n1_ := Aside0.mk (blk_drew BK281.out)
                        have n2_ := Aside0.mk (below_drew1 HB.out)
                        clear BK275
                        clear BK281
                        clear HB
                        have BK275 := n0_
                        have BK281 := n1_
                        have HB := n2_
                        clear n0_ n1_ n2_
                        have p295 : 0 ≤ (x9_2 : Int) := of_decide_eq_true (by first | (with_reducible assumption) | assumption)
                        have q295 : x9_2 < (l0.length : Int) := of_decide_eq_true (by first | (with_reducible assumption) | assumption)
                        obtain ⟨ad295, e295, hx295_0, hx295_1, hx295_2, hx295_3, hx295_4, hx295_5⟩ := at_T34 HR0.out x9_2 p295 q295
                        have hw295_5 := hx295_5
                        have hw295_4 := hx295_4
                        have hw295_3 := hx295_3
                        have hw295_2 := hx295_2
                        have hw295_1 := hx295_1
                        have hw295_0 := hx295_0
                        obtain rfl : ad283 = ad295 := (by injection e295)
                        replace hx295_0 := (HB.out.cell (World.block_lt_of_cell? w _ hx295_0)).trans hx295_0
                        replace hx295_1 := (HB.out.cell (World.block_lt_of_cell? w _ hx295_1)).trans hx295_1
                        replace hx295_2 := (HB.out.cell (World.block_lt_of_cell? w _ hx295_2)).trans hx295_2
                        replace hx295_3 := (HB.out.cell (World.block_lt_of_cell? w _ hx295_3)).trans hx295_3
                        replace hx295_4 := (HB.out.cell (World.block_lt_of_cell? w _ hx295_4)).trans hx295_4
                        replace hx295_5 := (HB.out.cell (World.block_lt_of_cell? w _ hx295_5)).trans hx295_5
                        replace p295 := eq_true p295
                        replace q295 := eq_true q295
                        refine start_ (n := 10) (S := fun w' => w'.cell? ⟨gb275, 0, none⟩ = some (.string t268) ∧ w'.cell? ⟨gb275, 1, none⟩ = some (.int .i64 t269) ∧ w'.cell? ⟨gb275, 2, none⟩ = some (.int .i64 t270) ∧ w'.cell? ⟨gb275, 3, none⟩ = some (.int .i64 t271) ∧ w'.cell? ⟨gb275, 4, none⟩ = some (.int .i64 t272) ∧ w'.cell? ⟨gb275, 5, none⟩ = some (.string t273) ∧ w'.cell? (ad283.add ((x9_2).toNat * 6)) = some (.string ((rd_T34 l0 x9_2).f0)) ∧ w'.cell? ⟨(ad283.add ((x9_2).toNat * 6)).block, (ad283.add ((x9_2).toNat * 6)).off + 1, none⟩ = some (.int .i64 ((rd_T34 l0 x9_2).f1)) ∧ w'.cell? ⟨(ad283.add ((x9_2).toNat * 6)).block, (ad283.add ((x9_2).toNat * 6)).off + 2, none⟩ = some (.int .i64 ((rd_T34 l0 x9_2).f2.f0)) ∧ w'.cell? ⟨(ad283.add ((x9_2).toNat * 6)).block, (ad283.add ((x9_2).toNat * 6)).off + 3, none⟩ = some (.int .i64 ((rd_T34 l0 x9_2).f2.f1)) ∧ w'.cell? ⟨(ad283.add ((x9_2).toNat * 6)).block, (ad283.add ((x9_2).toNat * 6)).off + 4, none⟩ = some (.int .i64 ((rd_T34 l0 x9_2).f2.f2)) ∧ w'.cell? ⟨(ad283.add ((x9_2).toNat * 6)).block, (ad283.add ((x9_2).toNat * 6)).off + 5, none⟩ = some (.string ((rd_T34 l0 x9_2).f2.f3))) (ds := []) #[false, false, false, false, false, false, false, false, false, false] (by kernel_rfl) rfl rfl ⟨(blk_cell BK275.out 0).trans rfl, (blk_cell BK275.out 1).trans rfl, (blk_cell BK275.out 2).trans rfl, (blk_cell BK275.out 3).trans rfl, (blk_cell BK275.out 4).trans rfl, (blk_cell BK275.out 5).trans rfl, ((HB.out.cell (World.block_lt_of_cell? w _ hw295_0)).trans hw295_0), ((HB.out.cell (World.block_lt_of_cell? w _ hw295_1)).trans hw295_1), ((HB.out.cell (World.block_lt_of_cell? w _ hw295_2)).trans hw295_2), ((HB.out.cell (World.block_lt_of_cell? w _ hw295_3)).trans hw295_3), ((HB.out.cell (World.block_lt_of_cell? w _ hw295_4)).trans hw295_4), ((HB.out.cell (World.block_lt_of_cell? w _ hw295_5)).trans hw295_5)⟩ (fun hHeld => ?_); refine with_tabW rollcalllaw11_BestOne.tab12 rollcalllaw11_BestOne.bits12 (fun HT_ HW_ => ?_)
                        generalize w48.drew = w49 at BK275 BK281 HB hx295_0 hx295_1 hx295_2 hx295_3 hx295_4 hx295_5 hHeld ⊢
                        refine pure_ (i := 0) (N := some 54) (v := ?_) (a' := ?_) #[true, false, false, false, false, false, false, false, false, false] rfl rfl (any_of HT_.out (by kernel_rfl)) (fun _ _ _ h => h) (Or.inl ⟨by rfl, ?_⟩) ?_ ?_
                        rotate_left
                        · intro w'
                          go_simp
                          with_reducible rfl
                        rotate_left
                        · simp only [Act.put, List.setIfInBounds_toArray, List.set_cons_zero, List.set_cons_succ, i64_w, i32_w]
                          rfl
                        refine pure_ (i := 1) (N := some 55) (v := ?_) (a' := ?_) #[true, true, false, false, false, false, false, false, false, false] rfl rfl (any_of HT_.out (by kernel_rfl)) (fun _ _ _ h => h) (Or.inl ⟨by rfl, ?_⟩) ?_ ?_
                        rotate_left
                        · intro w'
                          go_simp
                          with_reducible rfl
                        rotate_left
                        · simp only [Act.put, List.setIfInBounds_toArray, List.set_cons_zero, List.set_cons_succ, i64_w, i32_w]
                          rfl
                        refine pure_ (i := 2) (N := some 56) (v := ?_) (a' := ?_) #[true, true, true, false, false, false, false, false, false, false] rfl rfl (any_of HT_.out (by kernel_rfl)) (fun _ _ _ h => h) (Or.inl ⟨by rfl, ?_⟩) ?_ ?_
                        rotate_left
                        · intro w'
                          go_simp
                          with_reducible rfl
                        rotate_left
                        · simp only [Act.put, List.setIfInBounds_toArray, List.set_cons_zero, List.set_cons_succ, i64_w, i32_w]
                          rfl
                        refine pure_ (i := 3) (N := some 57) (v := ?_) (a' := ?_) #[true, true, true, true, false, false, false, false, false, false] rfl rfl (any_of HT_.out (by kernel_rfl)) (fun _ _ _ h => h) (Or.inl ⟨by rfl, ?_⟩) ?_ ?_
                        rotate_left
                        · intro w'
                          go_simp
                          with_reducible rfl
                        rotate_left
                        · simp only [Act.put, List.setIfInBounds_toArray, List.set_cons_zero, List.set_cons_succ, i64_w, i32_w]
                          rfl
                        refine pure_ (i := 4) (N := some 58) (v := ?_) (a' := ?_) #[true, true, true, true, true, false, false, false, false, false] rfl rfl (any_of HT_.out (by kernel_rfl)) (fun _ _ _ h => h) (Or.inl ⟨by rfl, ?_⟩) ?_ ?_
                        rotate_left
                        · intro w'
                          go_simp
                          with_reducible rfl
                        rotate_left
                        · simp only [Act.put, List.setIfInBounds_toArray, List.set_cons_zero, List.set_cons_succ, i64_w, i32_w]
                          rfl
                        refine take_ (i := 5) (N := some 59) (v := ?_) (a' := ?_) #[true, true, true, true, true, true, false, false, false, false] rfl rfl (take_ofW HT_.out HW_.out (by kernel_rfl)) (fun _ _ _ h => h) (Or.inl ⟨by rfl, ?_⟩) hHeld ?_ ?_
                        rotate_left
                        · rintro w' ⟨s0, s1, s2, s3, s4, s5, s6, s7, s8, s9, s10, s11⟩
                          go_simp
                          with_reducible rfl
                        rotate_left
                        · simp only [Act.put, List.setIfInBounds_toArray, List.set_cons_zero, List.set_cons_succ, i64_w, i32_w]
                          rfl
                        refine take_ (i := 6) (N := some 60) (v := ?_) (a' := ?_) #[true, true, true, true, true, true, true, false, false, false] rfl rfl (take_ofW HT_.out HW_.out (by kernel_rfl)) (fun _ _ _ h => h) (Or.inl ⟨by rfl, ?_⟩) hHeld ?_ ?_
                        rotate_left
                        · rintro w' ⟨s0, s1, s2, s3, s4, s5, s6, s7, s8, s9, s10, s11⟩
                          go_simp
                          with_reducible rfl
                        rotate_left
                        · simp only [Act.put, List.setIfInBounds_toArray, List.set_cons_zero, List.set_cons_succ, i64_w, i32_w]
                          rfl
                        refine pure_ (i := 7) (N := some 61) (v := ?_) (a' := ?_) #[true, true, true, true, true, true, true, true, false, false] rfl rfl (any_of HT_.out (by kernel_rfl)) (fun _ _ _ h => h) (Or.inl ⟨by rfl, ?_⟩) ?_ ?_
                        rotate_left
                        · intro w'
                          go_simp
                          with_reducible rfl
                        rotate_left
                        · simp only [Act.put, List.setIfInBounds_toArray, List.set_cons_zero, List.set_cons_succ, i64_w, i32_w]
                          rfl
                        refine pure_ (i := 8) (N := some 62) (v := ?_) (a' := ?_) #[true, true, true, true, true, true, true, true, true, false] rfl rfl (any_of HT_.out (by kernel_rfl)) (fun _ _ _ h => h) (Or.inl ⟨by rfl, ?_⟩) ?_ ?_
                        rotate_left
                        · intro w'
                          go_simp
                          with_reducible rfl
                        rotate_left
                        · simp only [Act.put, List.setIfInBounds_toArray, List.set_cons_zero, List.set_cons_succ, i64_w, i32_w]
                          rfl
                        refine pure_ (i := 9) (N := some 7) (v := ?_) (a' := ?_) #[true, true, true, true, true, true, true, true, true, true] rfl rfl (any_of HT_.out (by kernel_rfl)) (fun _ _ _ h => h) (Or.inl ⟨by rfl, ?_⟩) ?_ ?_
                        rotate_left
                        · intro w'
                          go_simp
                          with_reducible rfl
                        rotate_left
                        · simp only [Act.put, List.setIfInBounds_toArray, List.set_cons_zero, List.set_cons_succ, i64_w, i32_w]
                          rfl
                        refine done_ (done_of HT_.out (by kernel_rfl)) ?_
                        try go_wp2
                        have n0_ := Aside0.mk (blk_drew BK275.out)
                        have n1_ := Aside0.mk (blk_drew BK281.out)
                        have n2_ := Aside0.mk (below_drew1 HB.out)
                        clear BK275
                        clear BK281
                        clear HB
                        have BK275 := n0_
                        have BK281 := n1_
                        have HB := n2_
                        clear n0_ n1_ n2_
                        have p296 : 0 ≤ (x9_2 : Int) := of_decide_eq_true (by first | (with_reducible assumption) | assumption)
                        have q296 : x9_2 < (l0.length : Int) := of_decide_eq_true (by first | (with_reducible assumption) | assumption)
                        obtain ⟨ad296, e296, hx296_0, hx296_1, hx296_2, hx296_3, hx296_4, hx296_5⟩ := at_T34 HR0.out x9_2 p296 q296
                        have hw296_5 := hx296_5
                        have hw296_4 := hx296_4
                        have hw296_3 := hx296_3
                        have hw296_2 := hx296_2
                        have hw296_1 := hx296_1
                        have hw296_0 := hx296_0
                        obtain rfl : ad283 = ad296 := (by injection e296)
                        replace hx296_0 := (HB.out.cell (World.block_lt_of_cell? w _ hx296_0)).trans hx296_0
                        replace hx296_1 := (HB.out.cell (World.block_lt_of_cell? w _ hx296_1)).trans hx296_1
                        replace hx296_2 := (HB.out.cell (World.block_lt_of_cell? w _ hx296_2)).trans hx296_2
                        replace hx296_3 := (HB.out.cell (World.block_lt_of_cell? w _ hx296_3)).trans hx296_3
                        replace hx296_4 := (HB.out.cell (World.block_lt_of_cell? w _ hx296_4)).trans hx296_4
                        replace hx296_5 := (HB.out.cell (World.block_lt_of_cell? w _ hx296_5)).trans hx296_5
                        replace p296 := eq_true p296
                        replace q296 := eq_true q296
                        refine start_ (n := 13) (S := fun w' => w'.cell? ⟨gb281, 0, none⟩ = some (.int .i64 t276) ∧ w'.cell? ⟨gb281, 1, none⟩ = some (.int .i64 t277) ∧ w'.cell? ⟨gb281, 2, none⟩ = some (.int .i64 t278) ∧ w'.cell? ⟨gb281, 3, none⟩ = some (.string t279) ∧ w'.cell? (ad283.add ((x9_2).toNat * 6)) = some (.string ((rd_T34 l0 x9_2).f0)) ∧ w'.cell? ⟨(ad283.add ((x9_2).toNat * 6)).block, (ad283.add ((x9_2).toNat * 6)).off + 1, none⟩ = some (.int .i64 ((rd_T34 l0 x9_2).f1)) ∧ w'.cell? ⟨(ad283.add ((x9_2).toNat * 6)).block, (ad283.add ((x9_2).toNat * 6)).off + 2, none⟩ = some (.int .i64 ((rd_T34 l0 x9_2).f2.f0)) ∧ w'.cell? ⟨(ad283.add ((x9_2).toNat * 6)).block, (ad283.add ((x9_2).toNat * 6)).off + 3, none⟩ = some (.int .i64 ((rd_T34 l0 x9_2).f2.f1)) ∧ w'.cell? ⟨(ad283.add ((x9_2).toNat * 6)).block, (ad283.add ((x9_2).toNat * 6)).off + 4, none⟩ = some (.int .i64 ((rd_T34 l0 x9_2).f2.f2)) ∧ w'.cell? ⟨(ad283.add ((x9_2).toNat * 6)).block, (ad283.add ((x9_2).toNat * 6)).off + 5, none⟩ = some (.string ((rd_T34 l0 x9_2).f2.f3))) (ds := []) #[false, false, false, false, false, false, false, false, false, false, false, false, false] (by kernel_rfl) rfl rfl ⟨(blk_cell BK281.out 0).trans rfl, (blk_cell BK281.out 1).trans rfl, (blk_cell BK281.out 2).trans rfl, (blk_cell BK281.out 3).trans rfl, ((HB.out.cell (World.block_lt_of_cell? w _ hw296_0)).trans hw296_0), ((HB.out.cell (World.block_lt_of_cell? w _ hw296_1)).trans hw296_1), ((HB.out.cell (World.block_lt_of_cell? w _ hw296_2)).trans hw296_2), ((HB.out.cell (World.block_lt_of_cell? w _ hw296_3)).trans hw296_3), ((HB.out.cell (World.block_lt_of_cell? w _ hw296_4)).trans hw296_4), ((HB.out.cell (World.block_lt_of_cell? w _ hw296_5)).trans hw296_5)⟩ (fun hHeld => ?_); refine with_tabW rollcalllaw11_BestOne.tab13 rollcalllaw11_BestOne.bits13 (fun HT_ HW_ => ?_)
                        generalize w49.drew = w50 at BK275 BK281 HB hx296_0 hx296_1 hx296_2 hx296_3 hx296_4 hx296_5 hHeld ⊢
                        refine pure_ (i := 0) (N := some 63) (v := ?_) (a' := ?_) #[true, false, false, false, false, false, false, false, false, false, false, false, false] rfl rfl (any_of HT_.out (by kernel_rfl)) (fun _ _ _ h => h) (Or.inl ⟨by rfl, ?_⟩) ?_ ?_
                        rotate_left
                        · intro w'
                          go_simp
                          with_reducible rfl
                        rotate_left
                        · simp only [Act.put, List.setIfInBounds_toArray, List.set_cons_zero, List.set_cons_succ, i64_w, i32_w]
                          rfl
                        refine pure_ (i := 1) (N := some 64) (v := ?_) (a' := ?_) #[true, true, false, false, false, false, false, false, false, false, false, false, false] rfl rfl (any_of HT_.out (by kernel_rfl)) (fun _ _ _ h => h) (Or.inl ⟨by rfl, ?_⟩) ?_ ?_
                        rotate_left
                        · intro w'
                          go_simp
                          with_reducible rfl
                        rotate_left
                        · simp only [Act.put, List.setIfInBounds_toArray, List.set_cons_zero, List.set_cons_succ, i64_w, i32_w]
                          rfl
                        refine pure_ (i := 2) (N := some 65) (v := ?_) (a' := ?_) #[true, true, true, false, false, false, false, false, false, false, false, false, false] rfl rfl (any_of HT_.out (by kernel_rfl)) (fun _ _ _ h => h) (Or.inl ⟨by rfl, ?_⟩) ?_ ?_
                        rotate_left
                        · intro w'
                          go_simp
                          with_reducible rfl
                        rotate_left
                        · simp only [Act.put, List.setIfInBounds_toArray, List.set_cons_zero, List.set_cons_succ, i64_w, i32_w]
                          rfl
                        refine pure_ (i := 3) (N := some 66) (v := ?_) (a' := ?_) #[true, true, true, true, false, false, false, false, false, false, false, false, false] rfl rfl (any_of HT_.out (by kernel_rfl)) (fun _ _ _ h => h) (Or.inl ⟨by rfl, ?_⟩) ?_ ?_
                        rotate_left
                        · intro w'
                          go_simp
                          with_reducible rfl
                        rotate_left
                        · simp only [Act.put, List.setIfInBounds_toArray, List.set_cons_zero, List.set_cons_succ, i64_w, i32_w]
                          rfl
                        refine pure_ (i := 4) (N := some 67) (v := ?_) (a' := ?_) #[true, true, true, true, true, false, false, false, false, false, false, false, false] rfl rfl (any_of HT_.out (by kernel_rfl)) (fun _ _ _ h => h) (Or.inl ⟨by rfl, ?_⟩) ?_ ?_
                        rotate_left
                        · intro w'
                          go_simp
                          with_reducible rfl
                        rotate_left
                        · simp only [Act.put, List.setIfInBounds_toArray, List.set_cons_zero, List.set_cons_succ, i64_w, i32_w]
                          rfl
                        refine pure_ (i := 5) (N := some 68) (v := ?_) (a' := ?_) #[true, true, true, true, true, true, false, false, false, false, false, false, false] rfl rfl (any_of HT_.out (by kernel_rfl)) (fun _ _ _ h => h) (Or.inl ⟨by rfl, ?_⟩) ?_ ?_
                        rotate_left
                        · intro w'
                          go_simp
                          with_reducible rfl
                        rotate_left
                        · simp only [Act.put, List.setIfInBounds_toArray, List.set_cons_zero, List.set_cons_succ, i64_w, i32_w]
                          rfl
                        refine pure_ (i := 6) (N := some 69) (v := ?_) (a' := ?_) #[true, true, true, true, true, true, true, false, false, false, false, false, false] rfl rfl (any_of HT_.out (by kernel_rfl)) (fun _ _ _ h => h) (Or.inl ⟨by rfl, ?_⟩) ?_ ?_
                        rotate_left
                        · intro w'
                          go_simp
                          with_reducible rfl
                        rotate_left
                        · simp only [Act.put, List.setIfInBounds_toArray, List.set_cons_zero, List.set_cons_succ, i64_w, i32_w]
                          rfl
                        refine pure_ (i := 8) (N := some 71) (v := ?_) (a' := ?_) #[true, true, true, true, true, true, true, false, true, false, false, false, false] rfl rfl (any_of HT_.out (by kernel_rfl)) (fun _ _ _ h => h) (Or.inl ⟨by rfl, ?_⟩) ?_ ?_
                        rotate_left
                        · intro w'
                          go_simp
                          with_reducible rfl
                        rotate_left
                        · simp only [Act.put, List.setIfInBounds_toArray, List.set_cons_zero, List.set_cons_succ, i64_w, i32_w]
                          rfl
                        refine take_ (i := 7) (N := some 70) (v := ?_) (a' := ?_) #[true, true, true, true, true, true, true, true, true, false, false, false, false] rfl rfl (take_ofW HT_.out HW_.out (by kernel_rfl)) (fun _ _ _ h => h) (Or.inl ⟨by rfl, ?_⟩) hHeld ?_ ?_
                        rotate_left
                        · rintro w' ⟨s0, s1, s2, s3, s4, s5, s6, s7, s8, s9⟩
                          go_simp
                          with_reducible rfl
                        rotate_left
                        · simp only [Act.put, List.setIfInBounds_toArray, List.set_cons_zero, List.set_cons_succ, i64_w, i32_w]
                          rfl
                        refine take_ (i := 9) (N := some 72) (v := ?_) (a' := ?_) #[true, true, true, true, true, true, true, true, true, true, false, false, false] rfl rfl (take_ofW HT_.out HW_.out (by kernel_rfl)) (fun _ _ _ h => h) (Or.inl ⟨by rfl, ?_⟩) hHeld ?_ ?_
                        rotate_left
                        · rintro w' ⟨s0, s1, s2, s3, s4, s5, s6, s7, s8, s9⟩
                          go_simp
                          with_reducible rfl
                        rotate_left
                        · simp only [Act.put, List.setIfInBounds_toArray, List.set_cons_zero, List.set_cons_succ, i64_w, i32_w]
                          rfl
                        refine pure_ (i := 10) (N := some 73) (v := ?_) (a' := ?_) #[true, true, true, true, true, true, true, true, true, true, true, false, false] rfl rfl (any_of HT_.out (by kernel_rfl)) (fun _ _ _ h => h) (Or.inl ⟨by rfl, ?_⟩) ?_ ?_
                        rotate_left
                        · intro w'
                          go_simp
                          with_reducible rfl
                        rotate_left
                        · simp only [Act.put, List.setIfInBounds_toArray, List.set_cons_zero, List.set_cons_succ, i64_w, i32_w]
                          rfl
                        refine pure_ (i := 11) (N := some 74) (v := ?_) (a' := ?_) #[true, true, true, true, true, true, true, true, true, true, true, true, false] rfl rfl (any_of HT_.out (by kernel_rfl)) (fun _ _ _ h => h) (Or.inl ⟨by rfl, ?_⟩) ?_ ?_
                        rotate_left
                        · intro w'
                          go_simp
                          with_reducible rfl
                        rotate_left
                        · simp only [Act.put, List.setIfInBounds_toArray, List.set_cons_zero, List.set_cons_succ, i64_w, i32_w]
                          rfl
                        refine pure_ (i := 12) (N := some 8) (v := ?_) (a' := ?_) #[true, true, true, true, true, true, true, true, true, true, true, true, true] rfl rfl (any_of HT_.out (by kernel_rfl)) (fun _ _ _ h => h) (Or.inl ⟨by rfl, ?_⟩) ?_ ?_
                        rotate_left
                        · intro w'
                          go_simp
                          with_reducible rfl
                        rotate_left
                        · simp only [Act.put, List.setIfInBounds_toArray, List.set_cons_zero, List.set_cons_succ, i64_w, i32_w]
                          rfl
                        refine done_ (done_of HT_.out (by kernel_rfl)) ?_
                        try go_wp2
                        go_roundg k2
                        case measure => have := HJ1.out; have := HK2.out; omega
                        case rel => exact ⟨(((((rd_T34 l0 x9_2).f0).toList) == t268.toList && (((rd_T34 l0 x9_2).f1) == t269 && ((((rd_T34 l0 x9_2).f2.f0) == t270 && (((rd_T34 l0 x9_2).f2.f1) == t271 && (((rd_T34 l0 x9_2).f2.f2) == t272 && ((((rd_T34 l0 x9_2).f2.f3).toList) == t273.toList)))))))), ((((rd_T34 l0 x9_2).f2.f0) == t276)), (wrap64 (x9_2 + 1)), (by first | rfl | (simp; done) | (simp [*]; done)), (by first | rfl | (simp; done) | (simp [*]; done)), (by first | rfl | (simp; done) | (simp [*]; done)), H', ⟨by have := HJ1.out; have := HK2.out; omega⟩, ⟨by (with_reducible repeat (first | refine blk_drewN ?_ _ | refine blk_drew ?_ | refine blk_alloc ?_ _)); exact BK275.out⟩, ⟨by (with_reducible repeat (first | refine blk_drewN ?_ _ | refine blk_drew ?_ | refine blk_alloc ?_ _)); exact BK281.out⟩, ⟨by repeat (first | (with_reducible first | exact HB.out | apply below_alloc | apply pw_below_drewN | apply below_drew1 | refine below_set ?_ GE275.out | refine below_set ?_ GE281.out) | exact HB.out)⟩⟩
              · rw [if_neg c18] at H
                exact absurd H (by simp)
            · rw [if_neg c17] at H
              have c17b0 : decide (x9_2 < (l0.length : Int)) = false := decide_eq_false c17
              clear c17
              by_cases c51 : t274 = true
              · subst c51
                have H1 : (if t280 = true then (if x7_2 = true then (if x8_2 = true then (if t277 = t271 then (if t278 = t272 then (if t279.toList = t273.toList then ((rollcalllaw11_live.f k2).bind fun t282 => (some t282)) else (some false)) else (some false)) else (some false)) else (some false)) else (some false)) else (some false)) = some r := by rw [if_pos rfl] at H; exact H
                clear H
                have H := H1
                clear H1
                by_cases c52 : t280 = true
                · subst c52
                  have H1 : (if x7_2 = true then (if x8_2 = true then (if t277 = t271 then (if t278 = t272 then (if t279.toList = t273.toList then ((rollcalllaw11_live.f k2).bind fun t282 => (some t282)) else (some false)) else (some false)) else (some false)) else (some false)) else (some false)) = some r := by rw [if_pos rfl] at H; exact H
                  clear H
                  have H := H1
                  clear H1
                  by_cases c53 : x7_2 = true
                  · subst c53
                    have H1 : (if x8_2 = true then (if t277 = t271 then (if t278 = t272 then (if t279.toList = t273.toList then ((rollcalllaw11_live.f k2).bind fun t282 => (some t282)) else (some false)) else (some false)) else (some false)) else (some false)) = some r := by rw [if_pos rfl] at H; exact H
                    clear H
                    have H := H1
                    clear H1
                    by_cases c54 : x8_2 = true
                    · subst c54
                      have H1 : (if t277 = t271 then (if t278 = t272 then (if t279.toList = t273.toList then ((rollcalllaw11_live.f k2).bind fun t282 => (some t282)) else (some false)) else (some false)) else (some false)) = some r := by rw [if_pos rfl] at H; exact H
                      clear H
                      have H := H1
                      clear H1
                      by_cases c55 : t277 = t271
                      · rw [if_pos c55] at H
                        have c55b0 : (t277 == t271) = true := beq_iff_eq.mpr c55
                        have c55b1 : (t277 != t271) = false := bne_eq_false_iff_eq.mpr c55
                        clear c55
                        by_cases c56 : t278 = t272
                        · rw [if_pos c56] at H
                          have c56b0 : (t278 == t272) = true := beq_iff_eq.mpr c56
                          have c56b1 : (t278 != t272) = false := bne_eq_false_iff_eq.mpr c56
                          clear c56
                          by_cases c57 : t279.toList = t273.toList
                          · rw [if_pos c57] at H
                            have c57b0 : (t279.toList == t273.toList) = true := beq_iff_eq.mpr c57
                            have c57b1 : (t279.toList != t273.toList) = false := bne_eq_false_iff_eq.mpr c57
                            clear c57
                            replace H := Option.bind_eq_some_iff.mp H
                            obtain ⟨t282, A580, H⟩ := H
                            replace H : (some t282) = some r := H
                            have A58 := Aside0.mk A580
                            clear A580
                            obtain rfl := Option.some.inj H
                            have hnb59 := NB281_275.out
                            have hnc59 := NB275_281.out
                            have hcz60_0 : wr.cell? ⟨gb281, 0, none⟩ = some (.int .i64 t276) := (blk_cell BK281.out 0).trans rfl
                            have hcz60_1 : wr.cell? ⟨gb281, 1, none⟩ = some (.int .i64 t277) := (blk_cell BK281.out 1).trans rfl
                            have hcz60_2 : wr.cell? ⟨gb281, 2, none⟩ = some (.int .i64 t278) := (blk_cell BK281.out 2).trans rfl
                            have hcz60_3 : wr.cell? ⟨gb281, 3, none⟩ = some (.string t279) := (blk_cell BK281.out 3).trans rfl
                            have hfz60_0 := blk_frozen BK281.out 0
                            have hfz60_1 := blk_frozen BK281.out 1
                            have hfz60_2 := blk_frozen BK281.out 2
                            have hfz60_3 := blk_frozen BK281.out 3
                            have hcz61_0 : wr.cell? ⟨gb275, 0, none⟩ = some (.string t268) := (blk_cell BK275.out 0).trans rfl
                            have hcz61_1 : wr.cell? ⟨gb275, 1, none⟩ = some (.int .i64 t269) := (blk_cell BK275.out 1).trans rfl
                            have hcz61_2 : wr.cell? ⟨gb275, 2, none⟩ = some (.int .i64 t270) := (blk_cell BK275.out 2).trans rfl
                            have hcz61_3 : wr.cell? ⟨gb275, 3, none⟩ = some (.int .i64 t271) := (blk_cell BK275.out 3).trans rfl
                            have hcz61_4 : wr.cell? ⟨gb275, 4, none⟩ = some (.int .i64 t272) := (blk_cell BK275.out 4).trans rfl
                            have hcz61_5 : wr.cell? ⟨gb275, 5, none⟩ = some (.string t273) := (blk_cell BK275.out 5).trans rfl
                            have hfz61_0 := blk_frozen BK275.out 0
                            have hfz61_1 := blk_frozen BK275.out 1
                            have hfz61_2 := blk_frozen BK275.out 2
                            have hfz61_3 := blk_frozen BK275.out 3
                            have hfz61_4 := blk_frozen BK275.out 4
                            have hfz61_5 := blk_frozen BK275.out 5
                            go_wp2_with (first | (go_at_call 9; (with_reducible refine (rollcalllaw11_live.calls k2  t282 _ A58.out).mono ?_); rintro e w62 ⟨rfl, hb⟩; have n0_ := Aside0.mk (blk_below (g := gb275) (o := .cells #[.string t268, .int .i64 t269, .int .i64 t270, .int .i64 t271, .int .i64 t272, .string t273] 34 (0, 0)) (by (with_reducible repeat (first | refine blk_drewN ?_ _ | refine blk_drew ?_ | refine blk_alloc ?_ _)); exact BK275.out) hb); have n1_ := Aside0.mk (blk_below (g := gb281) (o := .cells #[.int .i64 t276, .int .i64 t277, .int .i64 t278, .string t279] 24 (0, 0)) (by (with_reducible repeat (first | refine blk_drewN ?_ _ | refine blk_drew ?_ | refine blk_alloc ?_ _)); exact BK281.out) hb); have n2_ := Aside0.mk (below_step (by repeat (first | (with_reducible first | exact HB.out | apply below_alloc | apply pw_below_drewN | apply below_drew1 | refine below_set ?_ GE275.out | refine below_set ?_ GE281.out) | exact HB.out)) hb); clear BK275; clear BK281; clear HB; have BK275 := n0_; have BK281 := n1_; have HB := n2_; clear n0_ n1_ n2_; (try clear hb); (try clear hb2); (try clear hk); (try clear hi)))
                            go_ret
                            exact ⟨by first | rfl | (simp [errW_none, errW_some] <;> rfl) | (simp [*, errW_none, errW_some] <;> rfl), by repeat (first | (with_reducible first | exact HB.out | apply below_alloc | apply pw_below_drewN | apply below_drew1 | refine below_set ?_ GE275.out | refine below_set ?_ GE281.out) | exact HB.out)⟩
                          · rw [if_neg c57] at H
                            have c57b0 : (t279.toList == t273.toList) = false := beq_eq_false_iff_ne.mpr c57
                            have c57b1 : (t279.toList != t273.toList) = true := bne_iff_ne.mpr c57
                            exact absurd ((Option.some.inj H).trans HT.out) (by simp)
                        · rw [if_neg c56] at H
                          have c56b0 : (t278 == t272) = false := beq_eq_false_iff_ne.mpr c56
                          have c56b1 : (t278 != t272) = true := bne_iff_ne.mpr c56
                          exact absurd ((Option.some.inj H).trans HT.out) (by simp)
                      · rw [if_neg c55] at H
                        have c55b0 : (t277 == t271) = false := beq_eq_false_iff_ne.mpr c55
                        have c55b1 : (t277 != t271) = true := bne_iff_ne.mpr c55
                        exact absurd ((Option.some.inj H).trans HT.out) (by simp)
                    · replace c54 := Bool.eq_false_iff.mpr c54
                      subst c54
                      have H1 : (some false) = some r := by rw [if_neg (show ¬ (false = true) by decide)] at H; exact H
                      clear H
                      have H := H1
                      clear H1
                      exact absurd ((Option.some.inj H).trans HT.out) (by simp)
                  · replace c53 := Bool.eq_false_iff.mpr c53
                    subst c53
                    have H1 : (some false) = some r := by rw [if_neg (show ¬ (false = true) by decide)] at H; exact H
                    clear H
                    have H := H1
                    clear H1
                    exact absurd ((Option.some.inj H).trans HT.out) (by simp)
                · replace c52 := Bool.eq_false_iff.mpr c52
                  subst c52
                  have H1 : (some false) = some r := by rw [if_neg (show ¬ (false = true) by decide)] at H; exact H
                  clear H
                  have H := H1
                  clear H1
                  exact absurd ((Option.some.inj H).trans HT.out) (by simp)
              · replace c51 := Bool.eq_false_iff.mpr c51
                subst c51
                have H1 : (some false) = some r := by rw [if_neg (show ¬ (false = true) by decide)] at H; exact H
                clear H
                have H := H1
                clear H1
                exact absurd ((Option.some.inj H).trans HT.out) (by simp)

/-- THE PURE STATEMENT of rollcalllaw11_BestOne. -/
def rollcalllaw11_BestOne.Pure : Prop := ∀ (l0 : List (S34)), l0.length ≤ maxLen → (∀ x_ ∈ l0, Ok34 x_) → ∃ k, rollcalllaw11_BestOne.f k l0 = some true
theorem rollcalllaw11_BestOne.walkx (P : rollcalllaw11_BestOne.Pure) (A0 : Option Addr) (c0 : Nat) (l0 : List (S34)) (w : World) (hr0 : Kd.C k34 w A0 l0.length l0) (hc0 : l0.length ≤ c0) (q0 : l0.length ≤ maxLen) (q1 : (∀ x_ ∈ l0, Ok34 x_)) :
    Calls Try.prog 4 #[.slice A0 l0.length c0] w fun e w' => e = .returned (.bool true) ∧ Below w.heap.size w w' := by
  obtain ⟨k, h⟩ := P l0 q0 q1
  refine (rollcalllaw11_BestOne.calls k A0 c0 l0 true rfl w hr0 hc0 h).mono ?_
  rintro e w' ⟨rfl, hd⟩
  exact ⟨rfl, hd⟩

end Go.Proofs.Ytbapkknjbbaclaa.PA
