-- Written by a program of this session (wip/tools/xprint.py), which drives the kit's print.
import Derived.Test.YtgnjbiofjjcioaaPAx0
import Derived.Test.YtgnjbiofjjcioaaPAx1
import Derived.Test.YtgnjbiofjjcioaaPAx2
namespace Go.Proofs.Ytgnjbiofjjcioaa.PA
open Go.RowKit Go.Proofs.YtgnjbiofjjcioaaW.PrintWords Go.Proofs.YtgnjbiofjjcioaaW.PrintLast Go.Proofs.YtgnjbiofjjcioaaW.PrintMore
attribute [local go_sem] max2_int min2_int max_two min_two max_three min_three max_four min_four   -- for this text's walks alone
set_option linter.unusedVariables false
set_option linter.unusedSimpArgs false

/-! ### rollcalllaw22_NetTwo: function 7 -/
def rollcalllaw22_NetTwo.j0 : Nat → List ByteArray → Int → Int → Bool → Option (Bool)
  | 0, _, _, _, _ => none
  | k + 1, x0, x1, x2, x40 => if x40 = true then ((rollcalllaw22_live.f k).bind fun t385 => (some t385)) else ((net_Take.f x0 x1).bind fun bt386 => ((net_Take.f bt386.2.1 (wrap64 (x2 - 1))).bind fun bt391 => ((net_Take.f x0 x2).bind fun bt396 => ((net_Take.f bt396.2.1 x1).bind fun bt401 => ((net_Twice.f x0 x1).bind fun bt406 => ((net_Drop.f bt406.1 (x0.length : Int)).bind fun bt410 => (if bt386.2.2 = 0 then (if bt391.2.2 = 0 then (if bt396.2.2 = 0 then (if bt401.2.2 = 0 then (if 0 ≤ x1 then (if x1 < (x0.length : Int) then (if bt386.1.toList = (rdOf ByteArray.empty x0 x1).toList then (if 0 ≤ x2 then (if x2 < (x0.length : Int) then (if bt391.1.toList = (rdOf ByteArray.empty x0 x2).toList then (if bt396.1.toList = bt391.1.toList then (if bt401.1.toList = bt386.1.toList then ((rollcallref03_Same.f k bt391.2.1 bt401.2.1).bind fun t416 => (if t416 = true then (if bt406.2 = 0 then (if bt410.2 = 0 then ((rollcallref03_Same.f k bt410.1 x0).bind fun t417 => (if t417 = true then ((rollcalllaw22_live.f k).bind fun t418 => (some t418)) else (some false))) else (some false)) else (some false)) else (some false))) else (some false)) else (some false)) else (some false)) else (none)) else (none)) else (some false)) else (none)) else (none)) else (some false)) else (some false)) else (some false)) else (some false))))))))
def rollcalllaw22_NetTwo.f (k : Nat) (l0 : List ByteArray) (a1 : Int) (a2 : Int) : Option (Bool) := (rollcallref03_Few.f k l0 30 100).bind fun t384 => (if t384 = true then (if a1 < 0 then (rollcalllaw22_NetTwo.j0 k l0 a1 a2 true) else (if a2 ≤ a1 then (rollcalllaw22_NetTwo.j0 k l0 a1 a2 true) else (rollcalllaw22_NetTwo.j0 k l0 a1 a2 (decide (a2 ≥ (l0.length : Int)))))) else (rollcalllaw22_NetTwo.j0 k l0 a1 a2 true))
theorem rollcalllaw22_NetTwo.mono_l : ∀ k, (∀ y0 y1 y2 y3, LeO (rollcalllaw22_NetTwo.j0 k y0 y1 y2 y3) (rollcalllaw22_NetTwo.j0 (k + 1) y0 y1 y2 y3))
  | 0 => fun _ _ _ _ r h => by simp [rollcalllaw22_NetTwo.j0] at h
  | k + 1 => by
    have ih0 := rollcalllaw22_NetTwo.mono_l k
    · intro y0 y1 y2 y3
      unfold rollcalllaw22_NetTwo.j0
      repeat' first
      | (with_reducible exact ih0 _ _ _ _)
      | (with_reducible exact rollcalllaw22_live.mono _)
      | (with_reducible exact rollcallref03_Few.mono _ _ _ _)
      | (with_reducible exact rollcallref03_Same.mono _ _ _)
      | (with_reducible exact LeO.refl _)
      | (with_reducible exact LeO.none _)
      | (with_reducible refine LeO.ite ?_ ?_)
      | (with_reducible refine LeO.bind ?_ (fun _ => ?_))
      | exact ih0 _ _ _ _
      | exact rollcalllaw22_live.mono _
      | exact rollcallref03_Few.mono _ _ _ _
      | exact rollcallref03_Same.mono _ _ _
      | exact LeO.none _
      | refine LeO.ite ?_ ?_
      | refine LeO.bind ?_ (fun _ => ?_)
theorem rollcalllaw22_NetTwo.mono : ∀ a0 a1 a2 k, LeO (rollcalllaw22_NetTwo.f k a0 a1 a2) (rollcalllaw22_NetTwo.f (k + 1) a0 a1 a2) := by
  intro a0 a1 a2 k
  have ih0 := rollcalllaw22_NetTwo.mono_l k
  unfold rollcalllaw22_NetTwo.f
  repeat' first
      | (with_reducible exact ih0 _ _ _ _)
      | (with_reducible exact rollcalllaw22_live.mono _)
      | (with_reducible exact rollcallref03_Few.mono _ _ _ _)
      | (with_reducible exact rollcallref03_Same.mono _ _ _)
      | (with_reducible exact LeO.refl _)
      | (with_reducible exact LeO.none _)
      | (with_reducible refine LeO.ite ?_ ?_)
      | (with_reducible refine LeO.bind ?_ (fun _ => ?_))
      | exact ih0 _ _ _ _
      | exact rollcalllaw22_live.mono _
      | exact rollcallref03_Few.mono _ _ _ _
      | exact rollcallref03_Same.mono _ _ _
      | exact LeO.none _
      | refine LeO.ite ?_ ?_
      | refine LeO.bind ?_ (fun _ => ?_)
set_option maxHeartbeats 8000000 in
set_option maxRecDepth 100000 in
theorem rollcalllaw22_NetTwo.calls (k : Nat) (A0 : Option Addr) (c0 : Nat) (l0 : List ByteArray) (a1 : Int) (a2 : Int) (r : Bool) (hT_ : r = true) (w : World) (hr0 : Kd.C Kd.string w A0 l0.length l0) (hc0 : l0.length ≤ c0) (h : rollcalllaw22_NetTwo.f k l0 a1 a2 = some r) :
    Calls Try.prog 7 #[.slice A0 l0.length c0, .int .i64 a1, .int .i64 a2] w fun e w' => e = .returned (.bool r) ∧ Below w.heap.size w w' := by
  have HT := Aside0.mk hT_
  clear hT_
  have HR0 := Aside0.mk hr0
  have HC0 := Aside0.mk hc0
  clear hr0 hc0
  have HB := Aside0.mk (Below.refl w.heap.size w)
  have H : ((rollcallref03_Few.f k l0 30 100).bind fun t384 => (if t384 = true then (if a1 < 0 then (rollcalllaw22_NetTwo.j0 k l0 a1 a2 true) else (if a2 ≤ a1 then (rollcalllaw22_NetTwo.j0 k l0 a1 a2 true) else (rollcalllaw22_NetTwo.j0 k l0 a1 a2 (decide (a2 ≥ (l0.length : Int)))))) else (rollcalllaw22_NetTwo.j0 k l0 a1 a2 true))) = some r := h
  clear h
  have HC4 := Aside0.mk H
  clear H
  go_enter Try.func7, Try.ntmps7
  go_upto_region 1 with (fail)
  go_cut [40] (fun v40 wc => ∃ (kq : Nat) (x40_3 : Bool), v40 = .bool x40_3 ∧ Aside0 (rollcalllaw22_NetTwo.j0 kq l0 a1 a2 x40_3 = some r) ∧ Aside0 (kq ≤ k) ∧ Aside0 (Below w.heap.size w wc))
  case first =>
    have H := HC4.out
    clear HC4
    replace H := Option.bind_eq_some_iff.mp H
    obtain ⟨t384, A50, H⟩ := H
    replace H : (if t384 = true then (if a1 < 0 then (rollcalllaw22_NetTwo.j0 k l0 a1 a2 true) else (if a2 ≤ a1 then (rollcalllaw22_NetTwo.j0 k l0 a1 a2 true) else (rollcalllaw22_NetTwo.j0 k l0 a1 a2 (decide (a2 ≥ (l0.length : Int)))))) else (rollcalllaw22_NetTwo.j0 k l0 a1 a2 true)) = some r := H
    have A5 := Aside0.mk A50
    clear A50
    by_cases c6 : t384 = true
    · subst c6
      have H1 : (if a1 < 0 then (rollcalllaw22_NetTwo.j0 k l0 a1 a2 true) else (if a2 ≤ a1 then (rollcalllaw22_NetTwo.j0 k l0 a1 a2 true) else (rollcalllaw22_NetTwo.j0 k l0 a1 a2 (decide (a2 ≥ (l0.length : Int)))))) = some r := by rw [if_pos rfl] at H; exact H
      clear H
      have H := H1
      clear H1
      by_cases c7 : a1 < 0
      · rw [if_pos c7] at H
        have c7b0 : decide (a1 < 0) = true := decide_eq_true c7
        clear c7
        (first | rw [c7b0] | (simp only [i64_w, i32_w]; rw [c7b0]) | skip)
        have H' := Aside0.mk H
        clear H
        go_wp2_with (first | ((with_reducible refine gate_callee (f := 8) rfl ?_); refine goesL_ (some 24) rfl rfl Try.func8 (by kernel_rfl) rfl #[.slice A0 l0.length c0, .int .i64 30, .int .i64 100] rfl (by (try simp only [List.map_toArray, List.map_cons, List.map_nil]); first | done | rfl | (simp only [List.length_drop, List.length_take]; rfl)) ?_; (with_reducible refine (rollcallref03_Few.calls k _ _ l0 30 100 true _ ?side1 ?side2 A5.out).mono ?_); (case side1 => repeat (first | exact (Kd.C_below HR0.out HB.out) | (with_reducible refine Kd.C_alloc ?_ _) | (with_reducible refine Kd.C_drewN ?_ _) | (with_reducible refine Kd.C_drew ?_))); (case side2 => exact HC0.out); rintro e w' ⟨rfl, ⟨nd, rfl⟩⟩; refine ⟨_, rfl, ?_⟩))
        go_meet
        case rel => exact ⟨_, (true), (by first | rfl | (simp; done) | (simp [*]; done)), H', ⟨by first | omega | exact Nat.le_refl _⟩, ⟨by repeat (first | (with_reducible first | exact HB.out | apply below_alloc | apply pw_below_drewN | apply below_drew1) | exact HB.out)⟩⟩
      · rw [if_neg c7] at H
        have c7b0 : decide (a1 < 0) = false := decide_eq_false c7
        clear c7
        (first | rw [c7b0] | (simp only [i64_w, i32_w]; rw [c7b0]) | skip)
        by_cases c8 : a2 ≤ a1
        · rw [if_pos c8] at H
          have c8b0 : decide (a2 ≤ a1) = true := decide_eq_true c8
          clear c8
          have H' := Aside0.mk H
          clear H
          go_wp2_with (first | ((with_reducible refine gate_callee (f := 8) rfl ?_); refine goesL_ (some 24) rfl rfl Try.func8 (by kernel_rfl) rfl #[.slice A0 l0.length c0, .int .i64 30, .int .i64 100] rfl (by (try simp only [List.map_toArray, List.map_cons, List.map_nil]); first | done | rfl | (simp only [List.length_drop, List.length_take]; rfl)) ?_; (with_reducible refine (rollcallref03_Few.calls k _ _ l0 30 100 true _ ?side1 ?side2 A5.out).mono ?_); (case side1 => repeat (first | exact (Kd.C_below HR0.out HB.out) | (with_reducible refine Kd.C_alloc ?_ _) | (with_reducible refine Kd.C_drewN ?_ _) | (with_reducible refine Kd.C_drew ?_))); (case side2 => exact HC0.out); rintro e w' ⟨rfl, ⟨nd, rfl⟩⟩; refine ⟨_, rfl, ?_⟩))
          go_meet
          case rel => exact ⟨_, (true), (by first | rfl | (simp; done) | (simp [*]; done)), H', ⟨by first | omega | exact Nat.le_refl _⟩, ⟨by repeat (first | (with_reducible first | exact HB.out | apply below_alloc | apply pw_below_drewN | apply below_drew1) | exact HB.out)⟩⟩
        · rw [if_neg c8] at H
          have c8b0 : decide (a2 ≤ a1) = false := decide_eq_false c8
          clear c8
          have H' := Aside0.mk H
          clear H
          go_wp2_with (first | ((with_reducible refine gate_callee (f := 8) rfl ?_); refine goesL_ (some 24) rfl rfl Try.func8 (by kernel_rfl) rfl #[.slice A0 l0.length c0, .int .i64 30, .int .i64 100] rfl (by (try simp only [List.map_toArray, List.map_cons, List.map_nil]); first | done | rfl | (simp only [List.length_drop, List.length_take]; rfl)) ?_; (with_reducible refine (rollcallref03_Few.calls k _ _ l0 30 100 true _ ?side1 ?side2 A5.out).mono ?_); (case side1 => repeat (first | exact (Kd.C_below HR0.out HB.out) | (with_reducible refine Kd.C_alloc ?_ _) | (with_reducible refine Kd.C_drewN ?_ _) | (with_reducible refine Kd.C_drew ?_))); (case side2 => exact HC0.out); rintro e w' ⟨rfl, ⟨nd, rfl⟩⟩; refine ⟨_, rfl, ?_⟩))
          go_meet
          case rel => exact ⟨_, (decide (a2 ≥ (l0.length : Int))), (by first | rfl | (simp; done) | (simp [*]; done)), H', ⟨by first | omega | exact Nat.le_refl _⟩, ⟨by repeat (first | (with_reducible first | exact HB.out | apply below_alloc | apply pw_below_drewN | apply below_drew1) | exact HB.out)⟩⟩
    · replace c6 := Bool.eq_false_iff.mpr c6
      subst c6
      have H1 : (rollcalllaw22_NetTwo.j0 k l0 a1 a2 true) = some r := by rw [if_neg (show ¬ (false = true) by decide)] at H; exact H
      clear H
      have H := H1
      clear H1
      have H' := Aside0.mk H
      clear H
      go_wp2_with (first | ((with_reducible refine gate_callee (f := 8) rfl ?_); refine goesL_ (some 24) rfl rfl Try.func8 (by kernel_rfl) rfl #[.slice A0 l0.length c0, .int .i64 30, .int .i64 100] rfl (by (try simp only [List.map_toArray, List.map_cons, List.map_nil]); first | done | rfl | (simp only [List.length_drop, List.length_take]; rfl)) ?_; (with_reducible refine (rollcallref03_Few.calls k _ _ l0 30 100 false _ ?side1 ?side2 A5.out).mono ?_); (case side1 => repeat (first | exact (Kd.C_below HR0.out HB.out) | (with_reducible refine Kd.C_alloc ?_ _) | (with_reducible refine Kd.C_drewN ?_ _) | (with_reducible refine Kd.C_drew ?_))); (case side2 => exact HC0.out); rintro e w' ⟨rfl, ⟨nd, rfl⟩⟩; refine ⟨_, rfl, ?_⟩))
      go_meet
      case rel => exact ⟨_, (true), (by first | rfl | (simp; done) | (simp [*]; done)), H', ⟨by first | omega | exact Nat.le_refl _⟩, ⟨by repeat (first | (with_reducible first | exact HB.out | apply below_alloc | apply pw_below_drewN | apply below_drew1) | exact HB.out)⟩⟩
  case rest =>
    clear HC4
    try clear p2
    try clear c6
    try clear c7
    try clear c7b0
    try clear c8
    try clear c8b0
    obtain ⟨kq, x40_3, rfl, HA, HJ3, HB⟩ := hcut
    cases kq with
    | zero => exact absurd HA.out (by simp [rollcalllaw22_NetTwo.j0])
    | succ kj3 =>
      have H := HA.out
      clear HA
      simp only [rollcalllaw22_NetTwo.j0] at H
      by_cases c9 : x40_3 = true
      · subst c9
        have H1 : ((rollcalllaw22_live.f kj3).bind fun t385 => (some t385)) = some r := by rw [if_pos rfl] at H; exact H
        clear H
        have H := H1
        clear H1
        replace H := Option.bind_eq_some_iff.mp H
        obtain ⟨t385, A100, H⟩ := H
        replace H : (some t385) = some r := H
        have A10 := Aside0.mk A100
        clear A100
        obtain rfl := Option.some.inj H
        go_wp2_with (first | ((with_reducible refine gate_callee (f := 9) rfl ?_); refine goesL_ (some 41) rfl rfl Try.func9 (by kernel_rfl) rfl #[] rfl (by (try simp only [List.map_toArray, List.map_cons, List.map_nil]); first | done | rfl | (simp only [List.length_drop, List.length_take]; rfl)) ?_; (with_reducible refine (rollcalllaw22_live.calls kj3  t385 _ A10.out).mono ?_); rintro e w11 ⟨rfl, hb⟩; refine ⟨_, rfl, ?_⟩; have n0_ := Aside0.mk (below_step (by repeat (first | (with_reducible first | exact HB.out | apply below_alloc | apply pw_below_drewN | apply below_drew1) | exact HB.out)) hb); clear HB; have HB := n0_; clear n0_; (try clear hb); (try clear hb2); (try clear hk); (try clear hi)))
        go_ret
        exact ⟨by first | rfl | (simp [errW_none, errW_some] <;> rfl) | (simp [*, errW_none, errW_some] <;> rfl), by repeat (first | (with_reducible first | exact HB.out | apply below_alloc | apply pw_below_drewN | apply below_drew1) | exact HB.out)⟩
      · replace c9 := Bool.eq_false_iff.mpr c9
        subst c9
        have H1 : ((net_Take.f l0 a1).bind fun bt386 => ((net_Take.f bt386.2.1 (wrap64 (a2 - 1))).bind fun bt391 => ((net_Take.f l0 a2).bind fun bt396 => ((net_Take.f bt396.2.1 a1).bind fun bt401 => ((net_Twice.f l0 a1).bind fun bt406 => ((net_Drop.f bt406.1 (l0.length : Int)).bind fun bt410 => (if bt386.2.2 = 0 then (if bt391.2.2 = 0 then (if bt396.2.2 = 0 then (if bt401.2.2 = 0 then (if 0 ≤ a1 then (if a1 < (l0.length : Int) then (if bt386.1.toList = (rdOf ByteArray.empty l0 a1).toList then (if 0 ≤ a2 then (if a2 < (l0.length : Int) then (if bt391.1.toList = (rdOf ByteArray.empty l0 a2).toList then (if bt396.1.toList = bt391.1.toList then (if bt401.1.toList = bt386.1.toList then ((rollcallref03_Same.f kj3 bt391.2.1 bt401.2.1).bind fun t416 => (if t416 = true then (if bt406.2 = 0 then (if bt410.2 = 0 then ((rollcallref03_Same.f kj3 bt410.1 l0).bind fun t417 => (if t417 = true then ((rollcalllaw22_live.f kj3).bind fun t418 => (some t418)) else (some false))) else (some false)) else (some false)) else (some false))) else (some false)) else (some false)) else (some false)) else (none)) else (none)) else (some false)) else (none)) else (none)) else (some false)) else (some false)) else (some false)) else (some false)))))))) = some r := by rw [if_neg (show ¬ (false = true) by decide)] at H; exact H
        clear H
        have H := H1
        clear H1
        replace H := Option.bind_eq_some_iff.mp H
        obtain ⟨⟨t386, t387, t390⟩, A120, H⟩ := H
        replace H : ((net_Take.f t387 (wrap64 (a2 - 1))).bind fun bt391 => ((net_Take.f l0 a2).bind fun bt396 => ((net_Take.f bt396.2.1 a1).bind fun bt401 => ((net_Twice.f l0 a1).bind fun bt406 => ((net_Drop.f bt406.1 (l0.length : Int)).bind fun bt410 => (if t390 = 0 then (if bt391.2.2 = 0 then (if bt396.2.2 = 0 then (if bt401.2.2 = 0 then (if 0 ≤ a1 then (if a1 < (l0.length : Int) then (if t386.toList = (rdOf ByteArray.empty l0 a1).toList then (if 0 ≤ a2 then (if a2 < (l0.length : Int) then (if bt391.1.toList = (rdOf ByteArray.empty l0 a2).toList then (if bt396.1.toList = bt391.1.toList then (if bt401.1.toList = t386.toList then ((rollcallref03_Same.f kj3 bt391.2.1 bt401.2.1).bind fun t416 => (if t416 = true then (if bt406.2 = 0 then (if bt410.2 = 0 then ((rollcallref03_Same.f kj3 bt410.1 l0).bind fun t417 => (if t417 = true then ((rollcalllaw22_live.f kj3).bind fun t418 => (some t418)) else (some false))) else (some false)) else (some false)) else (some false))) else (some false)) else (some false)) else (some false)) else (none)) else (none)) else (some false)) else (none)) else (none)) else (some false)) else (some false)) else (some false)) else (some false))))))) = some r := H
        have A12 := Aside0.mk A120
        clear A120
        replace H := Option.bind_eq_some_iff.mp H
        obtain ⟨⟨t391, t392, t395⟩, A130, H⟩ := H
        replace H : ((net_Take.f l0 a2).bind fun bt396 => ((net_Take.f bt396.2.1 a1).bind fun bt401 => ((net_Twice.f l0 a1).bind fun bt406 => ((net_Drop.f bt406.1 (l0.length : Int)).bind fun bt410 => (if t390 = 0 then (if t395 = 0 then (if bt396.2.2 = 0 then (if bt401.2.2 = 0 then (if 0 ≤ a1 then (if a1 < (l0.length : Int) then (if t386.toList = (rdOf ByteArray.empty l0 a1).toList then (if 0 ≤ a2 then (if a2 < (l0.length : Int) then (if t391.toList = (rdOf ByteArray.empty l0 a2).toList then (if bt396.1.toList = t391.toList then (if bt401.1.toList = t386.toList then ((rollcallref03_Same.f kj3 t392 bt401.2.1).bind fun t416 => (if t416 = true then (if bt406.2 = 0 then (if bt410.2 = 0 then ((rollcallref03_Same.f kj3 bt410.1 l0).bind fun t417 => (if t417 = true then ((rollcalllaw22_live.f kj3).bind fun t418 => (some t418)) else (some false))) else (some false)) else (some false)) else (some false))) else (some false)) else (some false)) else (some false)) else (none)) else (none)) else (some false)) else (none)) else (none)) else (some false)) else (some false)) else (some false)) else (some false)))))) = some r := H
        have A13 := Aside0.mk A130
        clear A130
        replace H := Option.bind_eq_some_iff.mp H
        obtain ⟨⟨t396, t397, t400⟩, A140, H⟩ := H
        replace H : ((net_Take.f t397 a1).bind fun bt401 => ((net_Twice.f l0 a1).bind fun bt406 => ((net_Drop.f bt406.1 (l0.length : Int)).bind fun bt410 => (if t390 = 0 then (if t395 = 0 then (if t400 = 0 then (if bt401.2.2 = 0 then (if 0 ≤ a1 then (if a1 < (l0.length : Int) then (if t386.toList = (rdOf ByteArray.empty l0 a1).toList then (if 0 ≤ a2 then (if a2 < (l0.length : Int) then (if t391.toList = (rdOf ByteArray.empty l0 a2).toList then (if t396.toList = t391.toList then (if bt401.1.toList = t386.toList then ((rollcallref03_Same.f kj3 t392 bt401.2.1).bind fun t416 => (if t416 = true then (if bt406.2 = 0 then (if bt410.2 = 0 then ((rollcallref03_Same.f kj3 bt410.1 l0).bind fun t417 => (if t417 = true then ((rollcalllaw22_live.f kj3).bind fun t418 => (some t418)) else (some false))) else (some false)) else (some false)) else (some false))) else (some false)) else (some false)) else (some false)) else (none)) else (none)) else (some false)) else (none)) else (none)) else (some false)) else (some false)) else (some false)) else (some false))))) = some r := H
        have A14 := Aside0.mk A140
        clear A140
        replace H := Option.bind_eq_some_iff.mp H
        obtain ⟨⟨t401, t402, t405⟩, A150, H⟩ := H
        replace H : ((net_Twice.f l0 a1).bind fun bt406 => ((net_Drop.f bt406.1 (l0.length : Int)).bind fun bt410 => (if t390 = 0 then (if t395 = 0 then (if t400 = 0 then (if t405 = 0 then (if 0 ≤ a1 then (if a1 < (l0.length : Int) then (if t386.toList = (rdOf ByteArray.empty l0 a1).toList then (if 0 ≤ a2 then (if a2 < (l0.length : Int) then (if t391.toList = (rdOf ByteArray.empty l0 a2).toList then (if t396.toList = t391.toList then (if t401.toList = t386.toList then ((rollcallref03_Same.f kj3 t392 t402).bind fun t416 => (if t416 = true then (if bt406.2 = 0 then (if bt410.2 = 0 then ((rollcallref03_Same.f kj3 bt410.1 l0).bind fun t417 => (if t417 = true then ((rollcalllaw22_live.f kj3).bind fun t418 => (some t418)) else (some false))) else (some false)) else (some false)) else (some false))) else (some false)) else (some false)) else (some false)) else (none)) else (none)) else (some false)) else (none)) else (none)) else (some false)) else (some false)) else (some false)) else (some false)))) = some r := H
        have A15 := Aside0.mk A150
        clear A150
        replace H := Option.bind_eq_some_iff.mp H
        obtain ⟨⟨t406, t409⟩, A160, H⟩ := H
        replace H : ((net_Drop.f t406 (l0.length : Int)).bind fun bt410 => (if t390 = 0 then (if t395 = 0 then (if t400 = 0 then (if t405 = 0 then (if 0 ≤ a1 then (if a1 < (l0.length : Int) then (if t386.toList = (rdOf ByteArray.empty l0 a1).toList then (if 0 ≤ a2 then (if a2 < (l0.length : Int) then (if t391.toList = (rdOf ByteArray.empty l0 a2).toList then (if t396.toList = t391.toList then (if t401.toList = t386.toList then ((rollcallref03_Same.f kj3 t392 t402).bind fun t416 => (if t416 = true then (if t409 = 0 then (if bt410.2 = 0 then ((rollcallref03_Same.f kj3 bt410.1 l0).bind fun t417 => (if t417 = true then ((rollcalllaw22_live.f kj3).bind fun t418 => (some t418)) else (some false))) else (some false)) else (some false)) else (some false))) else (some false)) else (some false)) else (some false)) else (none)) else (none)) else (some false)) else (none)) else (none)) else (some false)) else (some false)) else (some false)) else (some false))) = some r := H
        have A16 := Aside0.mk A160
        clear A160
        replace H := Option.bind_eq_some_iff.mp H
        obtain ⟨⟨t410, t413⟩, A170, H⟩ := H
        replace H : (if t390 = 0 then (if t395 = 0 then (if t400 = 0 then (if t405 = 0 then (if 0 ≤ a1 then (if a1 < (l0.length : Int) then (if t386.toList = (rdOf ByteArray.empty l0 a1).toList then (if 0 ≤ a2 then (if a2 < (l0.length : Int) then (if t391.toList = (rdOf ByteArray.empty l0 a2).toList then (if t396.toList = t391.toList then (if t401.toList = t386.toList then ((rollcallref03_Same.f kj3 t392 t402).bind fun t416 => (if t416 = true then (if t409 = 0 then (if t413 = 0 then ((rollcallref03_Same.f kj3 t410 l0).bind fun t417 => (if t417 = true then ((rollcalllaw22_live.f kj3).bind fun t418 => (some t418)) else (some false))) else (some false)) else (some false)) else (some false))) else (some false)) else (some false)) else (some false)) else (none)) else (none)) else (some false)) else (none)) else (none)) else (some false)) else (some false)) else (some false)) else (some false)) = some r := H
        have A17 := Aside0.mk A170
        clear A170
        by_cases c18 : t390 = 0
        · rw [if_pos c18] at H
          have c18b0 : (t390 == 0) = true := beq_iff_eq.mpr c18
          have c18b1 : (t390 != 0) = false := bne_eq_false_iff_eq.mpr c18
          clear c18
          by_cases c19 : t395 = 0
          · rw [if_pos c19] at H
            have c19b0 : (t395 == 0) = true := beq_iff_eq.mpr c19
            have c19b1 : (t395 != 0) = false := bne_eq_false_iff_eq.mpr c19
            clear c19
            by_cases c20 : t400 = 0
            · rw [if_pos c20] at H
              have c20b0 : (t400 == 0) = true := beq_iff_eq.mpr c20
              have c20b1 : (t400 != 0) = false := bne_eq_false_iff_eq.mpr c20
              clear c20
              by_cases c21 : t405 = 0
              · rw [if_pos c21] at H
                have c21b0 : (t405 == 0) = true := beq_iff_eq.mpr c21
                have c21b1 : (t405 != 0) = false := bne_eq_false_iff_eq.mpr c21
                clear c21
                by_cases c22 : 0 ≤ a1
                · rw [if_pos c22] at H
                  have c22b0 : decide (0 ≤ a1) = true := decide_eq_true c22
                  clear c22
                  by_cases c23 : a1 < (l0.length : Int)
                  · rw [if_pos c23] at H
                    have c23b0 : decide (a1 < (l0.length : Int)) = true := decide_eq_true c23
                    clear c23
                    by_cases c24 : t386.toList = (rdOf ByteArray.empty l0 a1).toList
                    · rw [if_pos c24] at H
                      have c24b0 : (t386.toList == (rdOf ByteArray.empty l0 a1).toList) = true := beq_iff_eq.mpr c24
                      have c24b1 : (t386.toList != (rdOf ByteArray.empty l0 a1).toList) = false := bne_eq_false_iff_eq.mpr c24
                      clear c24
                      by_cases c25 : 0 ≤ a2
                      · rw [if_pos c25] at H
                        have c25b0 : decide (0 ≤ a2) = true := decide_eq_true c25
                        clear c25
                        by_cases c26 : a2 < (l0.length : Int)
                        · rw [if_pos c26] at H
                          have c26b0 : decide (a2 < (l0.length : Int)) = true := decide_eq_true c26
                          clear c26
                          by_cases c27 : t391.toList = (rdOf ByteArray.empty l0 a2).toList
                          · rw [if_pos c27] at H
                            have c27b0 : (t391.toList == (rdOf ByteArray.empty l0 a2).toList) = true := beq_iff_eq.mpr c27
                            have c27b1 : (t391.toList != (rdOf ByteArray.empty l0 a2).toList) = false := bne_eq_false_iff_eq.mpr c27
                            clear c27
                            by_cases c28 : t396.toList = t391.toList
                            · rw [if_pos c28] at H
                              have c28b0 : (t396.toList == t391.toList) = true := beq_iff_eq.mpr c28
                              have c28b1 : (t396.toList != t391.toList) = false := bne_eq_false_iff_eq.mpr c28
                              clear c28
                              by_cases c29 : t401.toList = t386.toList
                              · rw [if_pos c29] at H
                                have c29b0 : (t401.toList == t386.toList) = true := beq_iff_eq.mpr c29
                                have c29b1 : (t401.toList != t386.toList) = false := bne_eq_false_iff_eq.mpr c29
                                clear c29
                                replace H := Option.bind_eq_some_iff.mp H
                                obtain ⟨t416, A300, H⟩ := H
                                replace H : (if t416 = true then (if t409 = 0 then (if t413 = 0 then ((rollcallref03_Same.f kj3 t410 l0).bind fun t417 => (if t417 = true then ((rollcalllaw22_live.f kj3).bind fun t418 => (some t418)) else (some false))) else (some false)) else (some false)) else (some false)) = some r := H
                                have A30 := Aside0.mk A300
                                clear A300
                                by_cases c31 : t416 = true
                                · subst c31
                                  have H1 : (if t409 = 0 then (if t413 = 0 then ((rollcallref03_Same.f kj3 t410 l0).bind fun t417 => (if t417 = true then ((rollcalllaw22_live.f kj3).bind fun t418 => (some t418)) else (some false))) else (some false)) else (some false)) = some r := by rw [if_pos rfl] at H; exact H
                                  clear H
                                  have H := H1
                                  clear H1
                                  by_cases c32 : t409 = 0
                                  · rw [if_pos c32] at H
                                    have c32b0 : (t409 == 0) = true := beq_iff_eq.mpr c32
                                    have c32b1 : (t409 != 0) = false := bne_eq_false_iff_eq.mpr c32
                                    clear c32
                                    by_cases c33 : t413 = 0
                                    · rw [if_pos c33] at H
                                      have c33b0 : (t413 == 0) = true := beq_iff_eq.mpr c33
                                      have c33b1 : (t413 != 0) = false := bne_eq_false_iff_eq.mpr c33
                                      clear c33
                                      replace H := Option.bind_eq_some_iff.mp H
                                      obtain ⟨t417, A340, H⟩ := H
                                      replace H : (if t417 = true then ((rollcalllaw22_live.f kj3).bind fun t418 => (some t418)) else (some false)) = some r := H
                                      have A34 := Aside0.mk A340
                                      clear A340
                                      by_cases c35 : t417 = true
                                      · subst c35
                                        have H1 : ((rollcalllaw22_live.f kj3).bind fun t418 => (some t418)) = some r := by rw [if_pos rfl] at H; exact H
                                        clear H
                                        have H := H1
                                        clear H1
                                        replace H := Option.bind_eq_some_iff.mp H
                                        obtain ⟨t418, A360, H⟩ := H
                                        replace H : (some t418) = some r := H
                                        have A36 := Aside0.mk A360
                                        clear A360
                                        obtain rfl := Option.some.inj H
                                        go_wp2_with (first | ((with_reducible refine gate_callee (f := 15) rfl ?_); refine goesL_ (some 45) rfl rfl Try.func15 (by kernel_rfl) rfl #[.slice A0 l0.length c0, .int .i64 a1] rfl (by (try simp only [List.map_toArray, List.map_cons, List.map_nil]); first | done | rfl | (simp only [List.length_drop, List.length_take]; rfl)) ?_; (with_reducible refine (net_Take.calls (fun k_ => k_ < w.heap.size) _ _ l0 a1 t386 t387 t390 _ ?side1 A12.out).mono ?_); (case side1 => exact Kd.V_mk HC0.out (Kd.F_below (Kd.C_F Kd.heap_string HR0.out) (by repeat (first | (with_reducible first | exact HB.out | apply below_alloc | apply pw_below_drewN | apply below_drew1) | exact HB.out)))); rintro e w37 ⟨v388, rfl, ho0, hb⟩; refine ⟨_, rfl, ?_⟩; have n0_ := Aside0.mk (Kd.V_lower (Kd.V_mono (ok' := fun k_ => True) ho0 (fun k_ hk_ => trivial)) (below_size (by repeat (first | (with_reducible first | exact HB.out | apply below_alloc | apply pw_below_drewN | apply below_drew1) | exact HB.out)))); have n1_ := Aside0.mk (below_step (by repeat (first | (with_reducible first | exact HB.out | apply below_alloc | apply pw_below_drewN | apply below_drew1) | exact HB.out)) hb); clear HB; have HO389 := n0_; have HB := n1_; clear n0_ n1_; (try clear hb); (try clear hb2); (try clear hk); (try clear hi); (try clear ho0); obtain ⟨Ao38, co38, eo38⟩ := Kd.V_slice HO389.out; subst eo38) | ((with_reducible refine gate_callee (f := 15) rfl ?_); refine goesL_ (some 53) rfl rfl Try.func15 (by kernel_rfl) rfl #[.slice Ao38 t387.length co38, .int .i64 (wrap64 (a2 - 1))] rfl (by (try simp only [List.map_toArray, List.map_cons, List.map_nil]); first | done | rfl | (simp only [List.length_drop, List.length_take]; rfl)) ?_; (with_reducible refine (net_Take.calls (fun k_ => True) _ _ t387 (wrap64 (a2 - 1)) t391 t392 t395 _ ?side1 A13.out).mono ?_); (case side1 => exact HO389.out); rintro e w39 ⟨v393, rfl, ho0, hb⟩; refine ⟨_, rfl, ?_⟩; have n0_ := Aside0.mk (Kd.V_below (by (with_reducible repeat (first | apply Kd.V_alloc | apply Kd.V_drewN | apply Kd.V_drew)); exact HO389.out) hb); have n1_ := Aside0.mk (Kd.V_lower (Kd.V_mono (ok' := fun k_ => True) ho0 (fun k_ hk_ => trivial)) (below_size (by repeat (first | (with_reducible first | exact HB.out | apply below_alloc | apply pw_below_drewN | apply below_drew1) | exact HB.out)))); have n2_ := Aside0.mk (below_step (by repeat (first | (with_reducible first | exact HB.out | apply below_alloc | apply pw_below_drewN | apply below_drew1) | exact HB.out)) hb); clear HO389; clear HB; have HO389 := n0_; have HO394 := n1_; have HB := n2_; clear n0_ n1_ n2_; (try clear hb); (try clear hb2); (try clear hk); (try clear hi); (try clear ho0)) | ((with_reducible refine gate_callee (f := 15) rfl ?_); refine goesL_ (some 60) rfl rfl Try.func15 (by kernel_rfl) rfl #[.slice A0 l0.length c0, .int .i64 a2] rfl (by (try simp only [List.map_toArray, List.map_cons, List.map_nil]); first | done | rfl | (simp only [List.length_drop, List.length_take]; rfl)) ?_; (with_reducible refine (net_Take.calls (fun k_ => k_ < w.heap.size) _ _ l0 a2 t396 t397 t400 _ ?side1 A14.out).mono ?_); (case side1 => exact Kd.V_mk HC0.out (Kd.F_below (Kd.C_F Kd.heap_string HR0.out) (by repeat (first | (with_reducible first | exact HB.out | apply below_alloc | apply pw_below_drewN | apply below_drew1) | exact HB.out)))); rintro e w40 ⟨v398, rfl, ho0, hb⟩; refine ⟨_, rfl, ?_⟩; have n0_ := Aside0.mk (Kd.V_below (by (with_reducible repeat (first | apply Kd.V_alloc | apply Kd.V_drewN | apply Kd.V_drew)); exact HO389.out) hb); have n1_ := Aside0.mk (Kd.V_below (by (with_reducible repeat (first | apply Kd.V_alloc | apply Kd.V_drewN | apply Kd.V_drew)); exact HO394.out) hb); have n2_ := Aside0.mk (Kd.V_lower (Kd.V_mono (ok' := fun k_ => True) ho0 (fun k_ hk_ => trivial)) (below_size (by repeat (first | (with_reducible first | exact HB.out | apply below_alloc | apply pw_below_drewN | apply below_drew1) | exact HB.out)))); have n3_ := Aside0.mk (below_step (by repeat (first | (with_reducible first | exact HB.out | apply below_alloc | apply pw_below_drewN | apply below_drew1) | exact HB.out)) hb); clear HO389; clear HO394; clear HB; have HO389 := n0_; have HO394 := n1_; have HO399 := n2_; have HB := n3_; clear n0_ n1_ n2_ n3_; (try clear hb); (try clear hb2); (try clear hk); (try clear hi); (try clear ho0); obtain ⟨Ao41, co41, eo41⟩ := Kd.V_slice HO399.out; subst eo41) | ((with_reducible refine gate_callee (f := 15) rfl ?_); refine goesL_ (some 67) rfl rfl Try.func15 (by kernel_rfl) rfl #[.slice Ao41 t397.length co41, .int .i64 a1] rfl (by (try simp only [List.map_toArray, List.map_cons, List.map_nil]); first | done | rfl | (simp only [List.length_drop, List.length_take]; rfl)) ?_; (with_reducible refine (net_Take.calls (fun k_ => True) _ _ t397 a1 t401 t402 t405 _ ?side1 A15.out).mono ?_); (case side1 => exact HO399.out); rintro e w42 ⟨v403, rfl, ho0, hb⟩; refine ⟨_, rfl, ?_⟩; have n0_ := Aside0.mk (Kd.V_below (by (with_reducible repeat (first | apply Kd.V_alloc | apply Kd.V_drewN | apply Kd.V_drew)); exact HO389.out) hb); have n1_ := Aside0.mk (Kd.V_below (by (with_reducible repeat (first | apply Kd.V_alloc | apply Kd.V_drewN | apply Kd.V_drew)); exact HO394.out) hb); have n2_ := Aside0.mk (Kd.V_below (by (with_reducible repeat (first | apply Kd.V_alloc | apply Kd.V_drewN | apply Kd.V_drew)); exact HO399.out) hb); have n3_ := Aside0.mk (Kd.V_lower (Kd.V_mono (ok' := fun k_ => True) ho0 (fun k_ hk_ => trivial)) (below_size (by repeat (first | (with_reducible first | exact HB.out | apply below_alloc | apply pw_below_drewN | apply below_drew1) | exact HB.out)))); have n4_ := Aside0.mk (below_step (by repeat (first | (with_reducible first | exact HB.out | apply below_alloc | apply pw_below_drewN | apply below_drew1) | exact HB.out)) hb); clear HO389; clear HO394; clear HO399; clear HB; have HO389 := n0_; have HO394 := n1_; have HO399 := n2_; have HO404 := n3_; have HB := n4_; clear n0_ n1_ n2_ n3_ n4_; (try clear hb); (try clear hb2); (try clear hk); (try clear hi); (try clear ho0)) | ((with_reducible refine gate_callee (f := 19) rfl ?_); refine goesL_ (some 74) rfl rfl Try.func19 (by kernel_rfl) rfl #[.slice A0 l0.length c0, .int .i64 a1] rfl (by (try simp only [List.map_toArray, List.map_cons, List.map_nil]); first | done | rfl | (simp only [List.length_drop, List.length_take]; rfl)) ?_; (with_reducible refine (net_Twice.calls (fun k_ => k_ < w.heap.size) _ _ l0 a1 t406 t409 _ ?side1 A16.out).mono ?_); (case side1 => exact Kd.V_mk HC0.out (Kd.F_below (Kd.C_F Kd.heap_string HR0.out) (by repeat (first | (with_reducible first | exact HB.out | apply below_alloc | apply pw_below_drewN | apply below_drew1) | exact HB.out)))); rintro e w43 ⟨v407, rfl, ho0, hb⟩; refine ⟨_, rfl, ?_⟩; have n0_ := Aside0.mk (Kd.V_below (by (with_reducible repeat (first | apply Kd.V_alloc | apply Kd.V_drewN | apply Kd.V_drew)); exact HO389.out) hb); have n1_ := Aside0.mk (Kd.V_below (by (with_reducible repeat (first | apply Kd.V_alloc | apply Kd.V_drewN | apply Kd.V_drew)); exact HO394.out) hb); have n2_ := Aside0.mk (Kd.V_below (by (with_reducible repeat (first | apply Kd.V_alloc | apply Kd.V_drewN | apply Kd.V_drew)); exact HO399.out) hb); have n3_ := Aside0.mk (Kd.V_below (by (with_reducible repeat (first | apply Kd.V_alloc | apply Kd.V_drewN | apply Kd.V_drew)); exact HO404.out) hb); have n4_ := Aside0.mk (Kd.V_lower (Kd.V_mono (ok' := fun k_ => True) ho0 (fun k_ hk_ => trivial)) (below_size (by repeat (first | (with_reducible first | exact HB.out | apply below_alloc | apply pw_below_drewN | apply below_drew1) | exact HB.out)))); have n5_ := Aside0.mk (below_step (by repeat (first | (with_reducible first | exact HB.out | apply below_alloc | apply pw_below_drewN | apply below_drew1) | exact HB.out)) hb); clear HO389; clear HO394; clear HO399; clear HO404; clear HB; have HO389 := n0_; have HO394 := n1_; have HO399 := n2_; have HO404 := n3_; have HO408 := n4_; have HB := n5_; clear n0_ n1_ n2_ n3_ n4_ n5_; (try clear hb); (try clear hb2); (try clear hk); (try clear hi); (try clear ho0); obtain ⟨Ao44, co44, eo44⟩ := Kd.V_slice HO408.out; subst eo44) | ((with_reducible refine gate_callee (f := 17) rfl ?_); refine goesL_ (some 81) rfl rfl Try.func17 (by kernel_rfl) rfl #[.slice Ao44 t406.length co44, .int .i64 (l0.length : Int)] rfl (by (try simp only [List.map_toArray, List.map_cons, List.map_nil]); first | done | rfl | (simp only [List.length_drop, List.length_take]; rfl)) ?_; (with_reducible refine (net_Drop.calls (fun k_ => True) _ _ t406 (l0.length : Int) t410 t413 _ ?side1 A17.out).mono ?_); (case side1 => exact HO408.out); rintro e w45 ⟨v411, rfl, ho0, hb⟩; refine ⟨_, rfl, ?_⟩; have n0_ := Aside0.mk (Kd.V_below (by (with_reducible repeat (first | apply Kd.V_alloc | apply Kd.V_drewN | apply Kd.V_drew)); exact HO389.out) hb); have n1_ := Aside0.mk (Kd.V_below (by (with_reducible repeat (first | apply Kd.V_alloc | apply Kd.V_drewN | apply Kd.V_drew)); exact HO394.out) hb); have n2_ := Aside0.mk (Kd.V_below (by (with_reducible repeat (first | apply Kd.V_alloc | apply Kd.V_drewN | apply Kd.V_drew)); exact HO399.out) hb); have n3_ := Aside0.mk (Kd.V_below (by (with_reducible repeat (first | apply Kd.V_alloc | apply Kd.V_drewN | apply Kd.V_drew)); exact HO404.out) hb); have n4_ := Aside0.mk (Kd.V_below (by (with_reducible repeat (first | apply Kd.V_alloc | apply Kd.V_drewN | apply Kd.V_drew)); exact HO408.out) hb); have n5_ := Aside0.mk (Kd.V_lower (Kd.V_mono (ok' := fun k_ => True) ho0 (fun k_ hk_ => trivial)) (below_size (by repeat (first | (with_reducible first | exact HB.out | apply below_alloc | apply pw_below_drewN | apply below_drew1) | exact HB.out)))); have n6_ := Aside0.mk (below_step (by repeat (first | (with_reducible first | exact HB.out | apply below_alloc | apply pw_below_drewN | apply below_drew1) | exact HB.out)) hb); clear HO389; clear HO394; clear HO399; clear HO404; clear HO408; clear HB; have HO389 := n0_; have HO394 := n1_; have HO399 := n2_; have HO404 := n3_; have HO408 := n4_; have HO412 := n5_; have HB := n6_; clear n0_ n1_ n2_ n3_ n4_ n5_ n6_; (try clear hb); (try clear hb2); (try clear hk); (try clear hi); (try clear ho0); have p414 : 0 ≤ (a1 : Int) := of_decide_eq_true (by first | (with_reducible assumption) | assumption); have q414 : a1 < (l0.length : Int) := of_decide_eq_true (by first | (with_reducible assumption) | assumption); obtain ⟨ad414, e414, hx414_0⟩ := Kd.at_string HR0.out a1 p414 q414; cases e414; replace hx414_0 := (HB.out.cell (World.block_lt_of_cell? w _ hx414_0)).trans hx414_0; replace p414 := eq_true p414; replace q414 := eq_true q414; have p415 : 0 ≤ (a2 : Int) := of_decide_eq_true (by first | (with_reducible assumption) | assumption); have q415 : a2 < (l0.length : Int) := of_decide_eq_true (by first | (with_reducible assumption) | assumption); obtain ⟨ad415, e415, hx415_0⟩ := Kd.at_string HR0.out a2 p415 q415; obtain rfl : ad414 = ad415 := (by injection e415); replace hx415_0 := (HB.out.cell (World.block_lt_of_cell? w _ hx415_0)).trans hx415_0; replace p415 := eq_true p415; replace q415 := eq_true q415; obtain ⟨Ao46, co46, eo46⟩ := Kd.V_slice HO394.out; subst eo46; obtain ⟨Ao47, co47, eo47⟩ := Kd.V_slice HO404.out; subst eo47) | (go_at_call 14; (with_reducible refine (rollcallref03_Same.calls kj3 _ _ t392 _ _ t402 true _ ?side1 ?side2 ?side3 ?side4 A30.out).mono ?_); (case side1 => repeat (first | exact (Kd.V_reads' HO394.out).2.2 | (with_reducible refine Kd.C_alloc ?_ _) | (with_reducible refine Kd.C_drewN ?_ _) | (with_reducible refine Kd.C_drew ?_))); (case side2 => exact (Kd.V_reads' HO394.out).2.1); (case side3 => repeat (first | exact (Kd.V_reads' HO404.out).2.2 | (with_reducible refine Kd.C_alloc ?_ _) | (with_reducible refine Kd.C_drewN ?_ _) | (with_reducible refine Kd.C_drew ?_))); (case side4 => exact (Kd.V_reads' HO404.out).2.1); rintro e w' ⟨rfl, ⟨nd, rfl⟩⟩; obtain ⟨Ao48, co48, eo48⟩ := Kd.V_slice HO412.out; subst eo48) | (go_at_call 14; (with_reducible refine (rollcallref03_Same.calls kj3 _ _ t410 _ _ l0 true _ ?side1 ?side2 ?side3 ?side4 A34.out).mono ?_); (case side1 => repeat (first | exact (Kd.V_reads' HO412.out).2.2 | (with_reducible refine Kd.C_alloc ?_ _) | (with_reducible refine Kd.C_drewN ?_ _) | (with_reducible refine Kd.C_drew ?_))); (case side2 => exact (Kd.V_reads' HO412.out).2.1); (case side3 => repeat (first | exact (Kd.C_below HR0.out (by repeat (first | (with_reducible first | exact HB.out | apply below_alloc | apply pw_below_drewN | apply below_drew1) | exact HB.out))) | (with_reducible refine Kd.C_alloc ?_ _) | (with_reducible refine Kd.C_drewN ?_ _) | (with_reducible refine Kd.C_drew ?_))); (case side4 => exact HC0.out); rintro e w' ⟨rfl, ⟨nd, rfl⟩⟩) | (go_at_call 9; (with_reducible refine (rollcalllaw22_live.calls kj3  t418 _ A36.out).mono ?_); rintro e w49 ⟨rfl, hb⟩; have n0_ := Aside0.mk (Kd.V_below (by (with_reducible repeat (first | apply Kd.V_alloc | apply Kd.V_drewN | apply Kd.V_drew)); exact HO389.out) hb); have n1_ := Aside0.mk (Kd.V_below (by (with_reducible repeat (first | apply Kd.V_alloc | apply Kd.V_drewN | apply Kd.V_drew)); exact HO394.out) hb); have n2_ := Aside0.mk (Kd.V_below (by (with_reducible repeat (first | apply Kd.V_alloc | apply Kd.V_drewN | apply Kd.V_drew)); exact HO399.out) hb); have n3_ := Aside0.mk (Kd.V_below (by (with_reducible repeat (first | apply Kd.V_alloc | apply Kd.V_drewN | apply Kd.V_drew)); exact HO404.out) hb); have n4_ := Aside0.mk (Kd.V_below (by (with_reducible repeat (first | apply Kd.V_alloc | apply Kd.V_drewN | apply Kd.V_drew)); exact HO408.out) hb); have n5_ := Aside0.mk (Kd.V_below (by (with_reducible repeat (first | apply Kd.V_alloc | apply Kd.V_drewN | apply Kd.V_drew)); exact HO412.out) hb); have n6_ := Aside0.mk (below_step (by repeat (first | (with_reducible first | exact HB.out | apply below_alloc | apply pw_below_drewN | apply below_drew1) | exact HB.out)) hb); clear HO389; clear HO394; clear HO399; clear HO404; clear HO408; clear HO412; clear HB; have HO389 := n0_; have HO394 := n1_; have HO399 := n2_; have HO404 := n3_; have HO408 := n4_; have HO412 := n5_; have HB := n6_; clear n0_ n1_ n2_ n3_ n4_ n5_ n6_; (try clear hb); (try clear hb2); (try clear hk); (try clear hi)))
                                        go_ret
                                        exact ⟨by first | rfl | (simp [errW_none, errW_some] <;> rfl) | (simp [*, errW_none, errW_some] <;> rfl), by repeat (first | (with_reducible first | exact HB.out | apply below_alloc | apply pw_below_drewN | apply below_drew1) | exact HB.out)⟩
                                      · replace c35 := Bool.eq_false_iff.mpr c35
                                        subst c35
                                        have H1 : (some false) = some r := by rw [if_neg (show ¬ (false = true) by decide)] at H; exact H
                                        clear H
                                        have H := H1
                                        clear H1
                                        exact absurd ((Option.some.inj H).trans HT.out) (by simp)
                                    · rw [if_neg c33] at H
                                      have c33b0 : (t413 == 0) = false := beq_eq_false_iff_ne.mpr c33
                                      have c33b1 : (t413 != 0) = true := bne_iff_ne.mpr c33
                                      exact absurd ((Option.some.inj H).trans HT.out) (by simp)
                                  · rw [if_neg c32] at H
                                    have c32b0 : (t409 == 0) = false := beq_eq_false_iff_ne.mpr c32
                                    have c32b1 : (t409 != 0) = true := bne_iff_ne.mpr c32
                                    exact absurd ((Option.some.inj H).trans HT.out) (by simp)
                                · replace c31 := Bool.eq_false_iff.mpr c31
                                  subst c31
                                  have H1 : (some false) = some r := by rw [if_neg (show ¬ (false = true) by decide)] at H; exact H
                                  clear H
                                  have H := H1
                                  clear H1
                                  exact absurd ((Option.some.inj H).trans HT.out) (by simp)
                              · rw [if_neg c29] at H
                                have c29b0 : (t401.toList == t386.toList) = false := beq_eq_false_iff_ne.mpr c29
                                have c29b1 : (t401.toList != t386.toList) = true := bne_iff_ne.mpr c29
                                exact absurd ((Option.some.inj H).trans HT.out) (by simp)
                            · rw [if_neg c28] at H
                              have c28b0 : (t396.toList == t391.toList) = false := beq_eq_false_iff_ne.mpr c28
                              have c28b1 : (t396.toList != t391.toList) = true := bne_iff_ne.mpr c28
                              exact absurd ((Option.some.inj H).trans HT.out) (by simp)
                          · rw [if_neg c27] at H
                            have c27b0 : (t391.toList == (rdOf ByteArray.empty l0 a2).toList) = false := beq_eq_false_iff_ne.mpr c27
                            have c27b1 : (t391.toList != (rdOf ByteArray.empty l0 a2).toList) = true := bne_iff_ne.mpr c27
                            exact absurd ((Option.some.inj H).trans HT.out) (by simp)
                        · rw [if_neg c26] at H
                          exact absurd H (by simp)
                      · rw [if_neg c25] at H
                        exact absurd H (by simp)
                    · rw [if_neg c24] at H
                      have c24b0 : (t386.toList == (rdOf ByteArray.empty l0 a1).toList) = false := beq_eq_false_iff_ne.mpr c24
                      have c24b1 : (t386.toList != (rdOf ByteArray.empty l0 a1).toList) = true := bne_iff_ne.mpr c24
                      exact absurd ((Option.some.inj H).trans HT.out) (by simp)
                  · rw [if_neg c23] at H
                    exact absurd H (by simp)
                · rw [if_neg c22] at H
                  exact absurd H (by simp)
              · rw [if_neg c21] at H
                have c21b0 : (t405 == 0) = false := beq_eq_false_iff_ne.mpr c21
                have c21b1 : (t405 != 0) = true := bne_iff_ne.mpr c21
                exact absurd ((Option.some.inj H).trans HT.out) (by simp)
            · rw [if_neg c20] at H
              have c20b0 : (t400 == 0) = false := beq_eq_false_iff_ne.mpr c20
              have c20b1 : (t400 != 0) = true := bne_iff_ne.mpr c20
              exact absurd ((Option.some.inj H).trans HT.out) (by simp)
          · rw [if_neg c19] at H
            have c19b0 : (t395 == 0) = false := beq_eq_false_iff_ne.mpr c19
            have c19b1 : (t395 != 0) = true := bne_iff_ne.mpr c19
            exact absurd ((Option.some.inj H).trans HT.out) (by simp)
        · rw [if_neg c18] at H
          have c18b0 : (t390 == 0) = false := beq_eq_false_iff_ne.mpr c18
          have c18b1 : (t390 != 0) = true := bne_iff_ne.mpr c18
          exact absurd ((Option.some.inj H).trans HT.out) (by simp)

/-- THE PURE STATEMENT of rollcalllaw22_NetTwo. -/
def rollcalllaw22_NetTwo.Pure : Prop := ∀ (l0 : List ByteArray) (a1 : Int) (a2 : Int), l0.length ≤ maxLen → (∀ x_ ∈ l0, x_.size ≤ maxLen) → (Lit.int .i64 a1).wf = true → (Lit.int .i64 a2).wf = true → ∃ k, rollcalllaw22_NetTwo.f k l0 a1 a2 = some true
theorem rollcalllaw22_NetTwo.walkx (P : rollcalllaw22_NetTwo.Pure) (A0 : Option Addr) (c0 : Nat) (l0 : List ByteArray) (a1 : Int) (a2 : Int) (w : World) (hr0 : Kd.C Kd.string w A0 l0.length l0) (hc0 : l0.length ≤ c0) (q0 : l0.length ≤ maxLen) (q1 : (∀ x_ ∈ l0, x_.size ≤ maxLen)) (q2 : (Lit.int .i64 a1).wf = true) (q3 : (Lit.int .i64 a2).wf = true) :
    Calls Try.prog 7 #[.slice A0 l0.length c0, .int .i64 a1, .int .i64 a2] w fun e w' => e = .returned (.bool true) ∧ Below w.heap.size w w' := by
  obtain ⟨k, h⟩ := P l0 a1 a2 q0 q1 q2 q3
  refine (rollcalllaw22_NetTwo.calls k A0 c0 l0 a1 a2 true rfl w hr0 hc0 h).mono ?_
  rintro e w' ⟨rfl, hd⟩
  exact ⟨rfl, hd⟩

end Go.Proofs.Ytgnjbiofjjcioaa.PA
