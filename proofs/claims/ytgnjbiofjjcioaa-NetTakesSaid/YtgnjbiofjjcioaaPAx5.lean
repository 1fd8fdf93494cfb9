-- Written by a program of this session (wip/tools/xprint.py), which drives the kit's print.
import Derived.Test.YtgnjbiofjjcioaaPAx0
import Derived.Test.YtgnjbiofjjcioaaPAx1
import Derived.Test.YtgnjbiofjjcioaaPAx2
namespace Go.Proofs.Ytgnjbiofjjcioaa.PA
open Go.RowKit Go.Proofs.YtgnjbiofjjcioaaW.PrintWords Go.Proofs.YtgnjbiofjjcioaaW.PrintLast Go.Proofs.YtgnjbiofjjcioaaW.PrintMore
attribute [local go_sem] max2_int min2_int max_two min_two max_three min_three max_four min_four   -- for this text's walks alone
set_option linter.unusedVariables false
set_option linter.unusedSimpArgs false

/-! ### rollcalllaw22_NetTakes: function 6 -/
mutual
def rollcalllaw22_NetTakes.j0 : Nat → List ByteArray → List ByteArray → Int → Bool → Option (Bool)
  | 0, _, _, _, _ => none
  | k + 1, x0, x1, x2, x27 => if x27 = true then ((rollcalllaw22_live.f k).bind fun t347 => (some t347)) else ((net_Send.f x0 x1).bind fun t348 => ((some (([] : List ByteArray) : List ByteArray)).bind fun y351 => (if y351.length + x0.length < 8796093022208 then ((some (y351 ++ x0 : List ByteArray)).bind fun y354 => (if y354.length + x1.length < 8796093022208 then ((some (y354 ++ x1 : List ByteArray)).bind fun y357 => ((net_Twice.f t348 x2).bind fun bt360 => ((net_Drop.f t348 x2).bind fun bt364 => (if x2 ≥ 0 then (if ((bt360.2 == 0) != (decide (x2 < (y357.length : Int)))) = true then (rollcalllaw22_NetTakes.j1 k x2 t348 y357 bt360.1 bt360.2 bt364.1 true) else (rollcalllaw22_NetTakes.j1 k x2 t348 y357 bt360.1 bt360.2 bt364.1 (bt360.2 != bt364.2))) else (if ((bt360.2 == 0) != false) = true then (rollcalllaw22_NetTakes.j1 k x2 t348 y357 bt360.1 bt360.2 bt364.1 true) else (rollcalllaw22_NetTakes.j1 k x2 t348 y357 bt360.1 bt360.2 bt364.1 (bt360.2 != bt364.2))))))) else (none))) else (none))))
def rollcalllaw22_NetTakes.j1 : Nat → Int → List ByteArray → List ByteArray → List ByteArray → Int → List ByteArray → Bool → Option (Bool)
  | 0, _, _, _, _, _, _, _ => none
  | k + 1, x2, x7, x8, x9, x10, x11, x64 => if x64 = true then (some false) else (if x10 = 0 then (if (x9.length : Int) = (wrap64 ((x8.length : Int) + 1)) then (if 0 ≤ (x8.length : Int) then (if (x8.length : Int) < (x9.length : Int) then (if 0 ≤ x2 then (if x2 < (x8.length : Int) then (if (rdOf ByteArray.empty x9 (x8.length : Int)).toList = (rdOf ByteArray.empty x8 x2).toList then (rollcalllaw22_NetTakes.j2 k x2 x7 x8 x10 x11 ((x11.length : Int) != (wrap64 ((x8.length : Int) - 1)))) else (rollcalllaw22_NetTakes.j2 k x2 x7 x8 x10 x11 true)) else (none)) else (none)) else (none)) else (none)) else (rollcalllaw22_NetTakes.j2 k x2 x7 x8 x10 x11 true)) else (rollcalllaw22_NetTakes.j2 k x2 x7 x8 x10 x11 false))
def rollcalllaw22_NetTakes.j2 : Nat → Int → List ByteArray → List ByteArray → Int → List ByteArray → Bool → Option (Bool)
  | 0, _, _, _, _, _, _ => none
  | k + 1, x2, x7, x8, x10, x11, x94 => if x94 = true then (some false) else (rollcalllaw22_NetTakes.l0 k x2 x7 x8 x10 x11 0)
def rollcalllaw22_NetTakes.l0 : Nat → Int → List ByteArray → List ByteArray → Int → List ByteArray → Int → Option (Bool)
  | 0, _, _, _, _, _, _ => none
  | k + 1, x2, x7, x8, x10, x11, x13 => if x13 < (x8.length : Int) then ((net_Take.f x7 0).bind fun bt372 => (if bt372.2.2 = 0 then (if 0 ≤ x13 then (rollcalllaw22_NetTakes.j4 k x2 x8 x10 x11 x13 bt372.2.1 (bt372.1.toList != (rdOf ByteArray.empty x8 x13).toList)) else (none)) else (rollcalllaw22_NetTakes.j4 k x2 x8 x10 x11 x13 bt372.2.1 true))) else (if (x7.length : Int) = 0 then (if x10 = 0 then (if (x11.length : Int) = 0 then ((rollcalllaw22_live.f k).bind fun t370 => (some t370)) else (some false)) else ((rollcalllaw22_live.f k).bind fun t371 => (some t371))) else (some false))
def rollcalllaw22_NetTakes.j4 : Nat → Int → List ByteArray → Int → List ByteArray → Int → List ByteArray → Bool → Option (Bool)
  | 0, _, _, _, _, _, _, _ => none
  | k + 1, x2, x8, x10, x11, x13, x15, x116 => if x116 = true then (some false) else (if x10 = 0 then (rollcalllaw22_NetTakes.j5 k x2 x8 x10 x11 x13 x15 (x13 != x2)) else (rollcalllaw22_NetTakes.j5 k x2 x8 x10 x11 x13 x15 false))
def rollcalllaw22_NetTakes.j5 : Nat → Int → List ByteArray → Int → List ByteArray → Int → List ByteArray → Bool → Option (Bool)
  | 0, _, _, _, _, _, _, _ => none
  | k + 1, x2, x8, x10, x11, x13, x15, x123 => if x123 = true then ((net_Take.f x11 0).bind fun bt378 => (if bt378.2.2 = 0 then (if 0 ≤ x13 then (if x13 < (x8.length : Int) then (if bt378.1.toList = (rdOf ByteArray.empty x8 x13).toList then (rollcalllaw22_NetTakes.l0 k x2 x15 x8 x10 bt378.2.1 (wrap64 (x13 + 1))) else (some false)) else (none)) else (none)) else (some false))) else (rollcalllaw22_NetTakes.l0 k x2 x15 x8 x10 x11 (wrap64 (x13 + 1)))
end
def rollcalllaw22_NetTakes.f (k : Nat) (l0 : List ByteArray) (l1 : List ByteArray) (a2 : Int) : Option (Bool) := (rollcallref03_Few.f k l0 30 100).bind fun t345 => (if t345 = true then ((rollcallref03_Few.f k l1 30 100).bind fun t346 => (rollcalllaw22_NetTakes.j0 k l0 l1 a2 (!t346))) else (rollcalllaw22_NetTakes.j0 k l0 l1 a2 true))
theorem rollcalllaw22_NetTakes.mono_l : ∀ k, (∀ y0 y1 y2 y3, LeO (rollcalllaw22_NetTakes.j0 k y0 y1 y2 y3) (rollcalllaw22_NetTakes.j0 (k + 1) y0 y1 y2 y3)) ∧ (∀ y0 y1 y2 y3 y4 y5 y6, LeO (rollcalllaw22_NetTakes.j1 k y0 y1 y2 y3 y4 y5 y6) (rollcalllaw22_NetTakes.j1 (k + 1) y0 y1 y2 y3 y4 y5 y6)) ∧ (∀ y0 y1 y2 y3 y4 y5, LeO (rollcalllaw22_NetTakes.j2 k y0 y1 y2 y3 y4 y5) (rollcalllaw22_NetTakes.j2 (k + 1) y0 y1 y2 y3 y4 y5)) ∧ (∀ y0 y1 y2 y3 y4 y5, LeO (rollcalllaw22_NetTakes.l0 k y0 y1 y2 y3 y4 y5) (rollcalllaw22_NetTakes.l0 (k + 1) y0 y1 y2 y3 y4 y5)) ∧ (∀ y0 y1 y2 y3 y4 y5 y6, LeO (rollcalllaw22_NetTakes.j4 k y0 y1 y2 y3 y4 y5 y6) (rollcalllaw22_NetTakes.j4 (k + 1) y0 y1 y2 y3 y4 y5 y6)) ∧ (∀ y0 y1 y2 y3 y4 y5 y6, LeO (rollcalllaw22_NetTakes.j5 k y0 y1 y2 y3 y4 y5 y6) (rollcalllaw22_NetTakes.j5 (k + 1) y0 y1 y2 y3 y4 y5 y6))
  | 0 => ⟨fun _ _ _ _ r h => by simp [rollcalllaw22_NetTakes.j0] at h, fun _ _ _ _ _ _ _ r h => by simp [rollcalllaw22_NetTakes.j1] at h, fun _ _ _ _ _ _ r h => by simp [rollcalllaw22_NetTakes.j2] at h, fun _ _ _ _ _ _ r h => by simp [rollcalllaw22_NetTakes.l0] at h, fun _ _ _ _ _ _ _ r h => by simp [rollcalllaw22_NetTakes.j4] at h, fun _ _ _ _ _ _ _ r h => by simp [rollcalllaw22_NetTakes.j5] at h⟩
  | k + 1 => by
    obtain ⟨ih0, ih1, ih2, ih3, ih4, ih5⟩ := rollcalllaw22_NetTakes.mono_l k
    refine ⟨?_, ?_, ?_, ?_, ?_, ?_⟩
    · intro y0 y1 y2 y3
      unfold rollcalllaw22_NetTakes.j0
      repeat' first
      | (with_reducible exact ih0 _ _ _ _)
      | (with_reducible exact ih1 _ _ _ _ _ _ _)
      | (with_reducible exact ih2 _ _ _ _ _ _)
      | (with_reducible exact ih3 _ _ _ _ _ _)
      | (with_reducible exact ih4 _ _ _ _ _ _ _)
      | (with_reducible exact ih5 _ _ _ _ _ _ _)
      | (with_reducible exact rollcalllaw22_live.mono _)
      | (with_reducible exact rollcallref03_Few.mono _ _ _ _)
      | (with_reducible exact LeO.refl _)
      | (with_reducible exact LeO.none _)
      | (with_reducible refine LeO.ite ?_ ?_)
      | (with_reducible refine LeO.bind ?_ (fun _ => ?_))
      | exact ih0 _ _ _ _
      | exact ih1 _ _ _ _ _ _ _
      | exact ih2 _ _ _ _ _ _
      | exact ih3 _ _ _ _ _ _
      | exact ih4 _ _ _ _ _ _ _
      | exact ih5 _ _ _ _ _ _ _
      | exact rollcalllaw22_live.mono _
      | exact rollcallref03_Few.mono _ _ _ _
      | exact LeO.none _
      | refine LeO.ite ?_ ?_
      | refine LeO.bind ?_ (fun _ => ?_)
    · intro y0 y1 y2 y3 y4 y5 y6
      unfold rollcalllaw22_NetTakes.j1
      repeat' first
      | (with_reducible exact ih0 _ _ _ _)
      | (with_reducible exact ih1 _ _ _ _ _ _ _)
      | (with_reducible exact ih2 _ _ _ _ _ _)
      | (with_reducible exact ih3 _ _ _ _ _ _)
      | (with_reducible exact ih4 _ _ _ _ _ _ _)
      | (with_reducible exact ih5 _ _ _ _ _ _ _)
      | (with_reducible exact rollcalllaw22_live.mono _)
      | (with_reducible exact rollcallref03_Few.mono _ _ _ _)
      | (with_reducible exact LeO.refl _)
      | (with_reducible exact LeO.none _)
      | (with_reducible refine LeO.ite ?_ ?_)
      | (with_reducible refine LeO.bind ?_ (fun _ => ?_))
      | exact ih0 _ _ _ _
      | exact ih1 _ _ _ _ _ _ _
      | exact ih2 _ _ _ _ _ _
      | exact ih3 _ _ _ _ _ _
      | exact ih4 _ _ _ _ _ _ _
      | exact ih5 _ _ _ _ _ _ _
      | exact rollcalllaw22_live.mono _
      | exact rollcallref03_Few.mono _ _ _ _
      | exact LeO.none _
      | refine LeO.ite ?_ ?_
      | refine LeO.bind ?_ (fun _ => ?_)
    · intro y0 y1 y2 y3 y4 y5
      unfold rollcalllaw22_NetTakes.j2
      repeat' first
      | (with_reducible exact ih0 _ _ _ _)
      | (with_reducible exact ih1 _ _ _ _ _ _ _)
      | (with_reducible exact ih2 _ _ _ _ _ _)
      | (with_reducible exact ih3 _ _ _ _ _ _)
      | (with_reducible exact ih4 _ _ _ _ _ _ _)
      | (with_reducible exact ih5 _ _ _ _ _ _ _)
      | (with_reducible exact rollcalllaw22_live.mono _)
      | (with_reducible exact rollcallref03_Few.mono _ _ _ _)
      | (with_reducible exact LeO.refl _)
      | (with_reducible exact LeO.none _)
      | (with_reducible refine LeO.ite ?_ ?_)
      | (with_reducible refine LeO.bind ?_ (fun _ => ?_))
      | exact ih0 _ _ _ _
      | exact ih1 _ _ _ _ _ _ _
      | exact ih2 _ _ _ _ _ _
      | exact ih3 _ _ _ _ _ _
      | exact ih4 _ _ _ _ _ _ _
      | exact ih5 _ _ _ _ _ _ _
      | exact rollcalllaw22_live.mono _
      | exact rollcallref03_Few.mono _ _ _ _
      | exact LeO.none _
      | refine LeO.ite ?_ ?_
      | refine LeO.bind ?_ (fun _ => ?_)
    · intro y0 y1 y2 y3 y4 y5
      unfold rollcalllaw22_NetTakes.l0
      repeat' first
      | (with_reducible exact ih0 _ _ _ _)
      | (with_reducible exact ih1 _ _ _ _ _ _ _)
      | (with_reducible exact ih2 _ _ _ _ _ _)
      | (with_reducible exact ih3 _ _ _ _ _ _)
      | (with_reducible exact ih4 _ _ _ _ _ _ _)
      | (with_reducible exact ih5 _ _ _ _ _ _ _)
      | (with_reducible exact rollcalllaw22_live.mono _)
      | (with_reducible exact rollcallref03_Few.mono _ _ _ _)
      | (with_reducible exact LeO.refl _)
      | (with_reducible exact LeO.none _)
      | (with_reducible refine LeO.ite ?_ ?_)
      | (with_reducible refine LeO.bind ?_ (fun _ => ?_))
      | exact ih0 _ _ _ _
      | exact ih1 _ _ _ _ _ _ _
      | exact ih2 _ _ _ _ _ _
      | exact ih3 _ _ _ _ _ _
      | exact ih4 _ _ _ _ _ _ _
      | exact ih5 _ _ _ _ _ _ _
      | exact rollcalllaw22_live.mono _
      | exact rollcallref03_Few.mono _ _ _ _
      | exact LeO.none _
      | refine LeO.ite ?_ ?_
      | refine LeO.bind ?_ (fun _ => ?_)
    · intro y0 y1 y2 y3 y4 y5 y6
      unfold rollcalllaw22_NetTakes.j4
      repeat' first
      | (with_reducible exact ih0 _ _ _ _)
      | (with_reducible exact ih1 _ _ _ _ _ _ _)
      | (with_reducible exact ih2 _ _ _ _ _ _)
      | (with_reducible exact ih3 _ _ _ _ _ _)
      | (with_reducible exact ih4 _ _ _ _ _ _ _)
      | (with_reducible exact ih5 _ _ _ _ _ _ _)
      | (with_reducible exact rollcalllaw22_live.mono _)
      | (with_reducible exact rollcallref03_Few.mono _ _ _ _)
      | (with_reducible exact LeO.refl _)
      | (with_reducible exact LeO.none _)
      | (with_reducible refine LeO.ite ?_ ?_)
      | (with_reducible refine LeO.bind ?_ (fun _ => ?_))
      | exact ih0 _ _ _ _
      | exact ih1 _ _ _ _ _ _ _
      | exact ih2 _ _ _ _ _ _
      | exact ih3 _ _ _ _ _ _
      | exact ih4 _ _ _ _ _ _ _
      | exact ih5 _ _ _ _ _ _ _
      | exact rollcalllaw22_live.mono _
      | exact rollcallref03_Few.mono _ _ _ _
      | exact LeO.none _
      | refine LeO.ite ?_ ?_
      | refine LeO.bind ?_ (fun _ => ?_)
    · intro y0 y1 y2 y3 y4 y5 y6
      unfold rollcalllaw22_NetTakes.j5
      repeat' first
      | (with_reducible exact ih0 _ _ _ _)
      | (with_reducible exact ih1 _ _ _ _ _ _ _)
      | (with_reducible exact ih2 _ _ _ _ _ _)
      | (with_reducible exact ih3 _ _ _ _ _ _)
      | (with_reducible exact ih4 _ _ _ _ _ _ _)
      | (with_reducible exact ih5 _ _ _ _ _ _ _)
      | (with_reducible exact rollcalllaw22_live.mono _)
      | (with_reducible exact rollcallref03_Few.mono _ _ _ _)
      | (with_reducible exact LeO.refl _)
      | (with_reducible exact LeO.none _)
      | (with_reducible refine LeO.ite ?_ ?_)
      | (with_reducible refine LeO.bind ?_ (fun _ => ?_))
      | exact ih0 _ _ _ _
      | exact ih1 _ _ _ _ _ _ _
      | exact ih2 _ _ _ _ _ _
      | exact ih3 _ _ _ _ _ _
      | exact ih4 _ _ _ _ _ _ _
      | exact ih5 _ _ _ _ _ _ _
      | exact rollcalllaw22_live.mono _
      | exact rollcallref03_Few.mono _ _ _ _
      | exact LeO.none _
      | refine LeO.ite ?_ ?_
      | refine LeO.bind ?_ (fun _ => ?_)
theorem rollcalllaw22_NetTakes.mono : ∀ a0 a1 a2 k, LeO (rollcalllaw22_NetTakes.f k a0 a1 a2) (rollcalllaw22_NetTakes.f (k + 1) a0 a1 a2) := by
  intro a0 a1 a2 k
  obtain ⟨ih0, ih1, ih2, ih3, ih4, ih5⟩ := rollcalllaw22_NetTakes.mono_l k
  unfold rollcalllaw22_NetTakes.f
  repeat' first
      | (with_reducible exact ih0 _ _ _ _)
      | (with_reducible exact ih1 _ _ _ _ _ _ _)
      | (with_reducible exact ih2 _ _ _ _ _ _)
      | (with_reducible exact ih3 _ _ _ _ _ _)
      | (with_reducible exact ih4 _ _ _ _ _ _ _)
      | (with_reducible exact ih5 _ _ _ _ _ _ _)
      | (with_reducible exact rollcalllaw22_live.mono _)
      | (with_reducible exact rollcallref03_Few.mono _ _ _ _)
      | (with_reducible exact LeO.refl _)
      | (with_reducible exact LeO.none _)
      | (with_reducible refine LeO.ite ?_ ?_)
      | (with_reducible refine LeO.bind ?_ (fun _ => ?_))
      | exact ih0 _ _ _ _
      | exact ih1 _ _ _ _ _ _ _
      | exact ih2 _ _ _ _ _ _
      | exact ih3 _ _ _ _ _ _
      | exact ih4 _ _ _ _ _ _ _
      | exact ih5 _ _ _ _ _ _ _
      | exact rollcalllaw22_live.mono _
      | exact rollcallref03_Few.mono _ _ _ _
      | exact LeO.none _
      | refine LeO.ite ?_ ?_
      | refine LeO.bind ?_ (fun _ => ?_)
set_option maxHeartbeats 8000000 in
set_option maxRecDepth 100000 in
theorem rollcalllaw22_NetTakes.calls (k : Nat) (A0 : Option Addr) (c0 : Nat) (l0 : List ByteArray) (A1 : Option Addr) (c1 : Nat) (l1 : List ByteArray) (a2 : Int) (r : Bool) (hT_ : r = true) (w : World) (hr0 : Kd.C Kd.string w A0 l0.length l0) (hc0 : l0.length ≤ c0) (hr1 : Kd.C Kd.string w A1 l1.length l1) (hc1 : l1.length ≤ c1) (h : rollcalllaw22_NetTakes.f k l0 l1 a2 = some r) :
    Calls Try.prog 6 #[.slice A0 l0.length c0, .slice A1 l1.length c1, .int .i64 a2] w fun e w' => e = .returned (.bool r) ∧ Below w.heap.size w w' := by
  have HT := Aside0.mk hT_
  clear hT_
  have HR0 := Aside0.mk hr0
  have HC0 := Aside0.mk hc0
  clear hr0 hc0
  have HR1 := Aside0.mk hr1
  have HC1 := Aside0.mk hc1
  clear hr1 hc1
  have HB := Aside0.mk (Below.refl w.heap.size w)
  have H : ((rollcallref03_Few.f k l0 30 100).bind fun t345 => (if t345 = true then ((rollcallref03_Few.f k l1 30 100).bind fun t346 => (rollcalllaw22_NetTakes.j0 k l0 l1 a2 (!t346))) else (rollcalllaw22_NetTakes.j0 k l0 l1 a2 true))) = some r := h
  clear h
  have HC4 := Aside0.mk H
  clear H
  go_enter Try.func6, Try.ntmps6
  go_upto_region 1 with (fail)
  repeat (go_quiet (fail); go_upto_region 1 with (fail))
  go_cut [27] (fun v27 wc => ∃ (kq : Nat) (x27_3 : Bool), v27 = .bool x27_3 ∧ Aside0 (rollcalllaw22_NetTakes.j0 kq l0 l1 a2 x27_3 = some r) ∧ Aside0 (kq ≤ k) ∧ Aside0 (Below w.heap.size w wc))
  case first =>
    have H := HC4.out
    clear HC4
    replace H := Option.bind_eq_some_iff.mp H
    obtain ⟨t345, A50, H⟩ := H
    replace H : (if t345 = true then ((rollcallref03_Few.f k l1 30 100).bind fun t346 => (rollcalllaw22_NetTakes.j0 k l0 l1 a2 (!t346))) else (rollcalllaw22_NetTakes.j0 k l0 l1 a2 true)) = some r := H
    have A5 := Aside0.mk A50
    clear A50
    by_cases c6 : t345 = true
    · subst c6
      have H1 : ((rollcallref03_Few.f k l1 30 100).bind fun t346 => (rollcalllaw22_NetTakes.j0 k l0 l1 a2 (!t346))) = some r := by rw [if_pos rfl] at H; exact H
      clear H
      have H := H1
      clear H1
      replace H := Option.bind_eq_some_iff.mp H
      obtain ⟨t346, A70, H⟩ := H
      replace H : (rollcalllaw22_NetTakes.j0 k l0 l1 a2 (!t346)) = some r := H
      have A7 := Aside0.mk A70
      clear A70
      have H' := Aside0.mk H
      clear H
      go_wp2_with (first | (go_at_call 8; (with_reducible refine (rollcallref03_Few.calls k _ _ l0 30 100 true _ ?side1 ?side2 A5.out).mono ?_); (case side1 => repeat (first | exact (Kd.C_below HR0.out HB.out) | (with_reducible refine Kd.C_alloc ?_ _) | (with_reducible refine Kd.C_drewN ?_ _) | (with_reducible refine Kd.C_drew ?_))); (case side2 => exact HC0.out); rintro e w' ⟨rfl, ⟨nd, rfl⟩⟩; (try first | exact ⟨rfl, _, World.drewN_drewN _ _ _⟩ | exact ⟨rfl, _, Eq.trans (World.drewN_drewN _ _ _) (congrArg (World.drewN _) (Nat.add_assoc _ _ _))⟩)) | (go_at_call 8; (with_reducible refine (rollcallref03_Few.calls k _ _ l1 30 100 t346 _ ?side1 ?side2 A7.out).mono ?_); (case side1 => repeat (first | exact (Kd.C_below HR1.out (by repeat (first | (with_reducible first | exact HB.out | apply below_alloc | apply pw_below_drewN | apply below_drew1) | exact HB.out))) | (with_reducible refine Kd.C_alloc ?_ _) | (with_reducible refine Kd.C_drewN ?_ _) | (with_reducible refine Kd.C_drew ?_))); (case side2 => exact HC1.out); rintro e w' ⟨rfl, ⟨nd, rfl⟩⟩; (try first | exact ⟨rfl, _, World.drewN_drewN _ _ _⟩ | exact ⟨rfl, _, Eq.trans (World.drewN_drewN _ _ _) (congrArg (World.drewN _) (Nat.add_assoc _ _ _))⟩)))
      repeat (go_quiet (first | (go_at_call 8; (with_reducible refine (rollcallref03_Few.calls k _ _ l0 30 100 true _ ?side1 ?side2 A5.out).mono ?_); (case side1 => repeat (first | exact (Kd.C_below HR0.out HB.out) | (with_reducible refine Kd.C_alloc ?_ _) | (with_reducible refine Kd.C_drewN ?_ _) | (with_reducible refine Kd.C_drew ?_))); (case side2 => exact HC0.out); rintro e w' ⟨rfl, ⟨nd, rfl⟩⟩; (try first | exact ⟨rfl, _, World.drewN_drewN _ _ _⟩ | exact ⟨rfl, _, Eq.trans (World.drewN_drewN _ _ _) (congrArg (World.drewN _) (Nat.add_assoc _ _ _))⟩)) | (go_at_call 8; (with_reducible refine (rollcallref03_Few.calls k _ _ l1 30 100 t346 _ ?side1 ?side2 A7.out).mono ?_); (case side1 => repeat (first | exact (Kd.C_below HR1.out (by repeat (first | (with_reducible first | exact HB.out | apply below_alloc | apply pw_below_drewN | apply below_drew1) | exact HB.out))) | (with_reducible refine Kd.C_alloc ?_ _) | (with_reducible refine Kd.C_drewN ?_ _) | (with_reducible refine Kd.C_drew ?_))); (case side2 => exact HC1.out); rintro e w' ⟨rfl, ⟨nd, rfl⟩⟩; (try first | exact ⟨rfl, _, World.drewN_drewN _ _ _⟩ | exact ⟨rfl, _, Eq.trans (World.drewN_drewN _ _ _) (congrArg (World.drewN _) (Nat.add_assoc _ _ _))⟩))); try go_wp2_with (first | (go_at_call 8; (with_reducible refine (rollcallref03_Few.calls k _ _ l0 30 100 true _ ?side1 ?side2 A5.out).mono ?_); (case side1 => repeat (first | exact (Kd.C_below HR0.out HB.out) | (with_reducible refine Kd.C_alloc ?_ _) | (with_reducible refine Kd.C_drewN ?_ _) | (with_reducible refine Kd.C_drew ?_))); (case side2 => exact HC0.out); rintro e w' ⟨rfl, ⟨nd, rfl⟩⟩; (try first | exact ⟨rfl, _, World.drewN_drewN _ _ _⟩ | exact ⟨rfl, _, Eq.trans (World.drewN_drewN _ _ _) (congrArg (World.drewN _) (Nat.add_assoc _ _ _))⟩)) | (go_at_call 8; (with_reducible refine (rollcallref03_Few.calls k _ _ l1 30 100 t346 _ ?side1 ?side2 A7.out).mono ?_); (case side1 => repeat (first | exact (Kd.C_below HR1.out (by repeat (first | (with_reducible first | exact HB.out | apply below_alloc | apply pw_below_drewN | apply below_drew1) | exact HB.out))) | (with_reducible refine Kd.C_alloc ?_ _) | (with_reducible refine Kd.C_drewN ?_ _) | (with_reducible refine Kd.C_drew ?_))); (case side2 => exact HC1.out); rintro e w' ⟨rfl, ⟨nd, rfl⟩⟩; (try first | exact ⟨rfl, _, World.drewN_drewN _ _ _⟩ | exact ⟨rfl, _, Eq.trans (World.drewN_drewN _ _ _) (congrArg (World.drewN _) (Nat.add_assoc _ _ _))⟩))))
      go_meet
      case rel => exact ⟨_, (!t346), (by first | rfl | (simp; done) | (simp [*]; done)), H', ⟨by first | omega | exact Nat.le_refl _⟩, ⟨by repeat (first | (with_reducible first | exact HB.out | apply below_alloc | apply pw_below_drewN | apply below_drew1) | exact HB.out)⟩⟩
    · replace c6 := Bool.eq_false_iff.mpr c6
      subst c6
      have H1 : (rollcalllaw22_NetTakes.j0 k l0 l1 a2 true) = some r := by rw [if_neg (show ¬ (false = true) by decide)] at H; exact H
      clear H
      have H := H1
      clear H1
      have H' := Aside0.mk H
      clear H
      go_wp2_with (first | (go_at_call 8; (with_reducible refine (rollcallref03_Few.calls k _ _ l0 30 100 false _ ?side1 ?side2 A5.out).mono ?_); (case side1 => repeat (first | exact (Kd.C_below HR0.out HB.out) | (with_reducible refine Kd.C_alloc ?_ _) | (with_reducible refine Kd.C_drewN ?_ _) | (with_reducible refine Kd.C_drew ?_))); (case side2 => exact HC0.out); rintro e w' ⟨rfl, ⟨nd, rfl⟩⟩; (try first | exact ⟨rfl, _, World.drewN_drewN _ _ _⟩ | exact ⟨rfl, _, Eq.trans (World.drewN_drewN _ _ _) (congrArg (World.drewN _) (Nat.add_assoc _ _ _))⟩)))
      repeat (go_quiet (first | (go_at_call 8; (with_reducible refine (rollcallref03_Few.calls k _ _ l0 30 100 false _ ?side1 ?side2 A5.out).mono ?_); (case side1 => repeat (first | exact (Kd.C_below HR0.out HB.out) | (with_reducible refine Kd.C_alloc ?_ _) | (with_reducible refine Kd.C_drewN ?_ _) | (with_reducible refine Kd.C_drew ?_))); (case side2 => exact HC0.out); rintro e w' ⟨rfl, ⟨nd, rfl⟩⟩; (try first | exact ⟨rfl, _, World.drewN_drewN _ _ _⟩ | exact ⟨rfl, _, Eq.trans (World.drewN_drewN _ _ _) (congrArg (World.drewN _) (Nat.add_assoc _ _ _))⟩))); try go_wp2_with (first | (go_at_call 8; (with_reducible refine (rollcallref03_Few.calls k _ _ l0 30 100 false _ ?side1 ?side2 A5.out).mono ?_); (case side1 => repeat (first | exact (Kd.C_below HR0.out HB.out) | (with_reducible refine Kd.C_alloc ?_ _) | (with_reducible refine Kd.C_drewN ?_ _) | (with_reducible refine Kd.C_drew ?_))); (case side2 => exact HC0.out); rintro e w' ⟨rfl, ⟨nd, rfl⟩⟩; (try first | exact ⟨rfl, _, World.drewN_drewN _ _ _⟩ | exact ⟨rfl, _, Eq.trans (World.drewN_drewN _ _ _) (congrArg (World.drewN _) (Nat.add_assoc _ _ _))⟩))))
      go_meet
      case rel => exact ⟨_, (true), (by first | rfl | (simp; done) | (simp [*]; done)), H', ⟨by first | omega | exact Nat.le_refl _⟩, ⟨by repeat (first | (with_reducible first | exact HB.out | apply below_alloc | apply pw_below_drewN | apply below_drew1) | exact HB.out)⟩⟩
  case rest =>
    clear HC4
    try clear c1
    try clear p2
    try clear c6
    obtain ⟨kq, x27_3, rfl, HA, HJ3, HB⟩ := hcut
    cases kq with
    | zero => exact absurd HA.out (by simp [rollcalllaw22_NetTakes.j0])
    | succ kj3 =>
      have H := HA.out
      clear HA
      simp only [rollcalllaw22_NetTakes.j0] at H
      by_cases c8 : x27_3 = true
      · subst c8
        have H1 : ((rollcalllaw22_live.f kj3).bind fun t347 => (some t347)) = some r := by rw [if_pos rfl] at H; exact H
        clear H
        have H := H1
        clear H1
        replace H := Option.bind_eq_some_iff.mp H
        obtain ⟨t347, A90, H⟩ := H
        replace H : (some t347) = some r := H
        have A9 := Aside0.mk A90
        clear A90
        obtain rfl := Option.some.inj H
        go_wp2_with (first | (go_at_call 9; (with_reducible refine (rollcalllaw22_live.calls kj3  t347 _ A9.out).mono ?_); rintro e w10 ⟨rfl, hb⟩; have n0_ := Aside0.mk (below_step (by repeat (first | (with_reducible first | exact HB.out | apply below_alloc | apply pw_below_drewN | apply below_drew1) | exact HB.out)) hb); clear HB; have HB := n0_; clear n0_; (try clear hb); (try clear hb2); (try clear hk); (try clear hi)))
        repeat (go_quiet (first | (go_at_call 9; (with_reducible refine (rollcalllaw22_live.calls kj3  t347 _ A9.out).mono ?_); rintro e w10 ⟨rfl, hb⟩; have n0_ := Aside0.mk (below_step (by repeat (first | (with_reducible first | exact HB.out | apply below_alloc | apply pw_below_drewN | apply below_drew1) | exact HB.out)) hb); clear HB; have HB := n0_; clear n0_; (try clear hb); (try clear hb2); (try clear hk); (try clear hi))); try go_wp2_with (first | (go_at_call 9; (with_reducible refine (rollcalllaw22_live.calls kj3  t347 _ A9.out).mono ?_); rintro e w10 ⟨rfl, hb⟩; have n0_ := Aside0.mk (below_step (by repeat (first | (with_reducible first | exact HB.out | apply below_alloc | apply pw_below_drewN | apply below_drew1) | exact HB.out)) hb); clear HB; have HB := n0_; clear n0_; (try clear hb); (try clear hb2); (try clear hk); (try clear hi))))
        go_ret
        exact ⟨by first | rfl | (simp [errW_none, errW_some] <;> rfl) | (simp [*, errW_none, errW_some] <;> rfl), by repeat (first | (with_reducible first | exact HB.out | apply below_alloc | apply pw_below_drewN | apply below_drew1) | exact HB.out)⟩
      · replace c8 := Bool.eq_false_iff.mpr c8
        subst c8
        have H1 : ((net_Send.f l0 l1).bind fun t348 => ((some (([] : List ByteArray) : List ByteArray)).bind fun y351 => (if y351.length + l0.length < 8796093022208 then ((some (y351 ++ l0 : List ByteArray)).bind fun y354 => (if y354.length + l1.length < 8796093022208 then ((some (y354 ++ l1 : List ByteArray)).bind fun y357 => ((net_Twice.f t348 a2).bind fun bt360 => ((net_Drop.f t348 a2).bind fun bt364 => (if a2 ≥ 0 then (if ((bt360.2 == 0) != (decide (a2 < (y357.length : Int)))) = true then (rollcalllaw22_NetTakes.j1 kj3 a2 t348 y357 bt360.1 bt360.2 bt364.1 true) else (rollcalllaw22_NetTakes.j1 kj3 a2 t348 y357 bt360.1 bt360.2 bt364.1 (bt360.2 != bt364.2))) else (if ((bt360.2 == 0) != false) = true then (rollcalllaw22_NetTakes.j1 kj3 a2 t348 y357 bt360.1 bt360.2 bt364.1 true) else (rollcalllaw22_NetTakes.j1 kj3 a2 t348 y357 bt360.1 bt360.2 bt364.1 (bt360.2 != bt364.2))))))) else (none))) else (none)))) = some r := by rw [if_neg (show ¬ (false = true) by decide)] at H; exact H
        clear H
        have H := H1
        clear H1
        replace H := Option.bind_eq_some_iff.mp H
        obtain ⟨t348, A110, H⟩ := H
        replace H : ((some (([] : List ByteArray) : List ByteArray)).bind fun y351 => (if y351.length + l0.length < 8796093022208 then ((some (y351 ++ l0 : List ByteArray)).bind fun y354 => (if y354.length + l1.length < 8796093022208 then ((some (y354 ++ l1 : List ByteArray)).bind fun y357 => ((net_Twice.f t348 a2).bind fun bt360 => ((net_Drop.f t348 a2).bind fun bt364 => (if a2 ≥ 0 then (if ((bt360.2 == 0) != (decide (a2 < (y357.length : Int)))) = true then (rollcalllaw22_NetTakes.j1 kj3 a2 t348 y357 bt360.1 bt360.2 bt364.1 true) else (rollcalllaw22_NetTakes.j1 kj3 a2 t348 y357 bt360.1 bt360.2 bt364.1 (bt360.2 != bt364.2))) else (if ((bt360.2 == 0) != false) = true then (rollcalllaw22_NetTakes.j1 kj3 a2 t348 y357 bt360.1 bt360.2 bt364.1 true) else (rollcalllaw22_NetTakes.j1 kj3 a2 t348 y357 bt360.1 bt360.2 bt364.1 (bt360.2 != bt364.2))))))) else (none))) else (none))) = some r := H
        have A11 := Aside0.mk A110
        clear A110
        obtain ⟨y351, hy351⟩ : ∃ y_ : List ByteArray, y_ = (([] : List ByteArray)) := ⟨_, rfl⟩
        replace H : (if y351.length + l0.length < 8796093022208 then ((some (y351 ++ l0 : List ByteArray)).bind fun y354 => (if y354.length + l1.length < 8796093022208 then ((some (y354 ++ l1 : List ByteArray)).bind fun y357 => ((net_Twice.f t348 a2).bind fun bt360 => ((net_Drop.f t348 a2).bind fun bt364 => (if a2 ≥ 0 then (if ((bt360.2 == 0) != (decide (a2 < (y357.length : Int)))) = true then (rollcalllaw22_NetTakes.j1 kj3 a2 t348 y357 bt360.1 bt360.2 bt364.1 true) else (rollcalllaw22_NetTakes.j1 kj3 a2 t348 y357 bt360.1 bt360.2 bt364.1 (bt360.2 != bt364.2))) else (if ((bt360.2 == 0) != false) = true then (rollcalllaw22_NetTakes.j1 kj3 a2 t348 y357 bt360.1 bt360.2 bt364.1 true) else (rollcalllaw22_NetTakes.j1 kj3 a2 t348 y357 bt360.1 bt360.2 bt364.1 (bt360.2 != bt364.2))))))) else (none))) else (none)) = some r := by first | (rw [hy351]; with_reducible exact H) | (have H2_ := (Option.bind_some _ _).symm.trans H; rw [hy351]; with_reducible exact H2_) | (have H2_ := (Option.bind_some _ _).symm.trans H; with_reducible exact H2_) | with_reducible exact H | (rw [hy351]; exact H) | exact H
        have Ny351 := Aside0.mk hy351
        clear hy351
        by_cases c12 : y351.length + l0.length < 8796093022208
        · rw [if_pos c12] at H
          have LMc12 := Aside0.mk c12
          clear c12
          obtain ⟨y354, hy354⟩ : ∃ y_ : List ByteArray, y_ = (y351 ++ l0) := ⟨_, rfl⟩
          replace H : (if y354.length + l1.length < 8796093022208 then ((some (y354 ++ l1 : List ByteArray)).bind fun y357 => ((net_Twice.f t348 a2).bind fun bt360 => ((net_Drop.f t348 a2).bind fun bt364 => (if a2 ≥ 0 then (if ((bt360.2 == 0) != (decide (a2 < (y357.length : Int)))) = true then (rollcalllaw22_NetTakes.j1 kj3 a2 t348 y357 bt360.1 bt360.2 bt364.1 true) else (rollcalllaw22_NetTakes.j1 kj3 a2 t348 y357 bt360.1 bt360.2 bt364.1 (bt360.2 != bt364.2))) else (if ((bt360.2 == 0) != false) = true then (rollcalllaw22_NetTakes.j1 kj3 a2 t348 y357 bt360.1 bt360.2 bt364.1 true) else (rollcalllaw22_NetTakes.j1 kj3 a2 t348 y357 bt360.1 bt360.2 bt364.1 (bt360.2 != bt364.2))))))) else (none)) = some r := by first | (rw [hy354]; with_reducible exact H) | (have H2_ := (Option.bind_some _ _).symm.trans H; rw [hy354]; with_reducible exact H2_) | (have H2_ := (Option.bind_some _ _).symm.trans H; with_reducible exact H2_) | with_reducible exact H | (rw [hy354]; exact H) | exact H
          have Ny354 := Aside0.mk hy354
          clear hy354
          by_cases c13 : y354.length + l1.length < 8796093022208
          · rw [if_pos c13] at H
            have LMc13 := Aside0.mk c13
            clear c13
            obtain ⟨y357, hy357⟩ : ∃ y_ : List ByteArray, y_ = (y354 ++ l1) := ⟨_, rfl⟩
            replace H : ((net_Twice.f t348 a2).bind fun bt360 => ((net_Drop.f t348 a2).bind fun bt364 => (if a2 ≥ 0 then (if ((bt360.2 == 0) != (decide (a2 < (y357.length : Int)))) = true then (rollcalllaw22_NetTakes.j1 kj3 a2 t348 y357 bt360.1 bt360.2 bt364.1 true) else (rollcalllaw22_NetTakes.j1 kj3 a2 t348 y357 bt360.1 bt360.2 bt364.1 (bt360.2 != bt364.2))) else (if ((bt360.2 == 0) != false) = true then (rollcalllaw22_NetTakes.j1 kj3 a2 t348 y357 bt360.1 bt360.2 bt364.1 true) else (rollcalllaw22_NetTakes.j1 kj3 a2 t348 y357 bt360.1 bt360.2 bt364.1 (bt360.2 != bt364.2)))))) = some r := by first | (rw [hy357]; with_reducible exact H) | (have H2_ := (Option.bind_some _ _).symm.trans H; rw [hy357]; with_reducible exact H2_) | (have H2_ := (Option.bind_some _ _).symm.trans H; with_reducible exact H2_) | with_reducible exact H | (rw [hy357]; exact H) | exact H
            have Ny357 := Aside0.mk hy357
            clear hy357
            replace H := Option.bind_eq_some_iff.mp H
            obtain ⟨⟨t360, t363⟩, A140, H⟩ := H
            replace H : ((net_Drop.f t348 a2).bind fun bt364 => (if a2 ≥ 0 then (if ((t363 == 0) != (decide (a2 < (y357.length : Int)))) = true then (rollcalllaw22_NetTakes.j1 kj3 a2 t348 y357 t360 t363 bt364.1 true) else (rollcalllaw22_NetTakes.j1 kj3 a2 t348 y357 t360 t363 bt364.1 (t363 != bt364.2))) else (if ((t363 == 0) != false) = true then (rollcalllaw22_NetTakes.j1 kj3 a2 t348 y357 t360 t363 bt364.1 true) else (rollcalllaw22_NetTakes.j1 kj3 a2 t348 y357 t360 t363 bt364.1 (t363 != bt364.2))))) = some r := H
            have A14 := Aside0.mk A140
            clear A140
            replace H := Option.bind_eq_some_iff.mp H
            obtain ⟨⟨t364, t367⟩, A150, H⟩ := H
            replace H : (if a2 ≥ 0 then (if ((t363 == 0) != (decide (a2 < (y357.length : Int)))) = true then (rollcalllaw22_NetTakes.j1 kj3 a2 t348 y357 t360 t363 t364 true) else (rollcalllaw22_NetTakes.j1 kj3 a2 t348 y357 t360 t363 t364 (t363 != t367))) else (if ((t363 == 0) != false) = true then (rollcalllaw22_NetTakes.j1 kj3 a2 t348 y357 t360 t363 t364 true) else (rollcalllaw22_NetTakes.j1 kj3 a2 t348 y357 t360 t363 t364 (t363 != t367)))) = some r := H
            have A15 := Aside0.mk A150
            clear A150
            have HC16 := Aside0.mk H
            clear H
            go_upto_region 7 with (first | (go_at_call 21; (with_reducible refine (net_Send.calls (fun k_ => k_ < w.heap.size) _ _ l0 (fun k_ => k_ < w.heap.size) _ _ l1 t348 _ ?side1 ?side2 A11.out).mono ?_); (case side1 => exact Kd.V_mk HC0.out (Kd.F_below (Kd.C_F Kd.heap_string HR0.out) (by repeat (first | (with_reducible first | exact HB.out | apply below_alloc | apply pw_below_drewN | apply below_drew1) | exact HB.out)))); (case side2 => exact Kd.V_mk HC1.out (Kd.F_below (Kd.C_F Kd.heap_string HR1.out) (by repeat (first | (with_reducible first | exact HB.out | apply below_alloc | apply pw_below_drewN | apply below_drew1) | exact HB.out)))); rintro e w17 ⟨v349, rfl, ho0, hb⟩; have n0_ := Aside0.mk (Kd.R_lower (Kd.R_mono (ok' := fun k_ => True) ho0 (fun _ hk_ => trivial)) (below_size (by repeat (first | (with_reducible first | exact HB.out | apply below_alloc | apply pw_below_drewN | apply below_drew1) | exact HB.out)))); have n1_ := Aside0.mk (below_step (by repeat (first | (with_reducible first | exact HB.out | apply below_alloc | apply pw_below_drewN | apply below_drew1) | exact HB.out)) hb); clear HB; have HO350 := n0_; have HB := n1_; clear n0_ n1_; (try clear hb); (try clear hb2); (try clear hk); (try clear hi); (try clear ho0)) | ((with_reducible refine gate_dst (N := 32) rfl ?_); (try (refine gate_guard (by rfl) ?_; dsimp only)); refine Kd.R_lit Kd.string _ 9 ?hg (N := 32) ?hd (xs := ([] : List ByteArray)) (inner := []) (ok := fun _ => True) (okp := fun _ => True) ?hr ?hp (fun _ hk => hk) trivial (Below.refl _ _) (Nat.le_refl _) (by simp) ?_; (case hd => rfl); (case hg => rfl); (case hr => first | (go_simp; done) | (go_simp; rfl)); (case hp => exact (Reps.none _ _)); intro v352 w18 ho19 hb hg_ hnew_; clear hg_ hnew_; (first | rw [← Ny351.out] at ho19 | (simp only [Int.reduceToNat] at ho19; rw [← Ny351.out] at ho19)); have n0_ := Aside0.mk (Kd.R_elder' (by (with_reducible repeat (first | apply Kd.R_alloc | apply Kd.R_drewN | apply Kd.R_drew)); exact HO350.out) (Kd.R_base ho19) hb); have n1_ := Aside0.mk (Kd.R_lower (Kd.R_new' ho19 (Kd.R_lt (by (with_reducible repeat (first | apply Kd.R_alloc | apply Kd.R_drewN | apply Kd.R_drew)); exact HO350.out))) (below_size (by repeat (first | (with_reducible first | exact HB.out | apply below_alloc | apply pw_below_drewN | apply below_drew1) | exact HB.out)))); have n2_ := Aside0.mk (below_step (by repeat (first | (with_reducible first | exact HB.out | apply below_alloc | apply pw_below_drewN | apply below_drew1) | exact HB.out)) hb); clear HO350; clear HB; have HO350 := n0_; have HO353 := n1_; have HB := n2_; clear n0_ n1_ n2_; clear hb ho19) | ((with_reducible refine gate_builtin (b := .append) (xs := #[.tmp 32, .tmp 33]) rfl ?_); (try (refine gate_guard (by rfl) ?_; dsimp only)); at_builtin; refine Kd.R_append_rows Kd.string (w0 := w) w.heap.size rfl (.tmp 32) (.tmp 33) 22 9 (.string ⟨#[]⟩) 16 rfl Try.underlying22 info9 rfl (by decide) (by omega) v352 y351 l0 _ _ _ (fun k_ => some k_ ≠ (v349 : Value).ownBlock) (fun _ => False) rfl rfl ?aO ?aR (fun _ _ h => h) (fun _ h => h.elim) ?aF ?aB ?aS ?aL ?_; (case aR => repeat (first | exact (Kd.C_below HR0.out HB.out) | (with_reducible refine Kd.C_alloc ?_ _) | (with_reducible refine Kd.C_drewN ?_ _) | (with_reducible refine Kd.C_drew ?_))); (case aB => exact (by repeat (first | (with_reducible first | exact HB.out | apply below_alloc | apply pw_below_drewN | apply below_drew1) | exact HB.out))); (case aF => exact (fun k_ hk => Kd.fresh' (Kd.R_lt (by (with_reducible repeat (first | apply Kd.R_alloc | apply Kd.R_drewN | apply Kd.R_drew)); exact HO350.out)) k_ hk)); (case aO => exact (by (with_reducible repeat (first | apply Kd.R_alloc | apply Kd.R_drewN | apply Kd.R_drew)); exact Kd.R_mono HO353.out (fun _ hk => hk.2))); (case aS => exact (below_size (by repeat (first | (with_reducible first | exact HB.out | apply below_alloc | apply pw_below_drewN | apply below_drew1) | exact HB.out)))); (case aL => have := LMc12.out; omega); intro v355 w20 ho hb hg hat; rw [← Ny354.out] at ho; have n0_ := Aside0.mk (Kd.R_after (ok := (fun _ => True)) (by (with_reducible repeat (first | apply Kd.R_alloc | apply Kd.R_drewN | apply Kd.R_drew)); exact HO350.out) hg hat); have n1_ := Aside0.mk (hb); have n2_ := Aside0.mk (ho); clear HO350; clear HB; clear HO353; have HO350 := n0_; have HB := n1_; have HO356 := n2_; clear n0_ n1_ n2_; clear ho hb hg hat) | ((with_reducible refine gate_builtin (b := .append) (xs := #[.tmp 34, .tmp 35]) rfl ?_); (try (refine gate_guard (by rfl) ?_; dsimp only)); at_builtin; refine Kd.R_append_rows Kd.string (w0 := w) w.heap.size rfl (.tmp 34) (.tmp 35) 22 9 (.string ⟨#[]⟩) 16 rfl Try.underlying22 info9 rfl (by decide) (by omega) v355 y354 l1 _ _ _ (fun k_ => some k_ ≠ (v349 : Value).ownBlock) (fun _ => False) rfl rfl ?aO ?aR (fun _ _ h => h) (fun _ h => h.elim) ?aF ?aB ?aS ?aL ?_; (case aR => repeat (first | exact (Kd.C_below HR1.out HB.out) | (with_reducible refine Kd.C_alloc ?_ _) | (with_reducible refine Kd.C_drewN ?_ _) | (with_reducible refine Kd.C_drew ?_))); (case aB => exact (by repeat (first | (with_reducible first | exact HB.out | apply below_alloc | apply pw_below_drewN | apply below_drew1) | exact HB.out))); (case aF => exact (fun k_ hk => Kd.fresh' (Kd.R_lt (by (with_reducible repeat (first | apply Kd.R_alloc | apply Kd.R_drewN | apply Kd.R_drew)); exact HO350.out)) k_ hk)); (case aO => exact (by (with_reducible repeat (first | apply Kd.R_alloc | apply Kd.R_drewN | apply Kd.R_drew)); exact HO356.out)); (case aS => exact (below_size (by repeat (first | (with_reducible first | exact HB.out | apply below_alloc | apply pw_below_drewN | apply below_drew1) | exact HB.out)))); (case aL => have := LMc13.out; omega); intro v358 w21 ho hb hg hat; rw [← Ny357.out] at ho; have n0_ := Aside0.mk (Kd.R_after (ok := (fun _ => True)) (by (with_reducible repeat (first | apply Kd.R_alloc | apply Kd.R_drewN | apply Kd.R_drew)); exact HO350.out) hg hat); have n1_ := Aside0.mk (hb); have n2_ := Aside0.mk (ho); clear HO350; clear HB; clear HO356; have HO350 := n0_; have HB := n1_; have HO359 := n2_; clear n0_ n1_ n2_; clear ho hb hg hat; obtain ⟨Ao22, co22, eo22⟩ := Kd.R_slice HO350.out; subst eo22) | (go_at_call 19; (with_reducible refine (net_Twice.calls (fun k_ => some k_ = (.slice Ao22 t348.length co22 : Value).ownBlock) _ _ t348 a2 t360 t363 _ ?side1 A14.out).mono ?_); (case side1 => exact Kd.R_V (Kd.R_tight rfl (HO350.out))); rintro e w23 ⟨v361, rfl, ho0, hb⟩; have n0_ := Aside0.mk (Kd.R_below (by (with_reducible repeat (first | apply Kd.R_alloc | apply Kd.R_drewN | apply Kd.R_drew)); exact HO350.out) hb); have n1_ := Aside0.mk (Kd.R_below (by (with_reducible repeat (first | apply Kd.R_alloc | apply Kd.R_drewN | apply Kd.R_drew)); exact HO359.out) hb); have n2_ := Aside0.mk (Kd.V_lower (Kd.V_mono (ok' := fun k_ => some k_ ≠ (v358 : Value).ownBlock) ho0 (fun k_ hk_ => Or.elim hk_ (fun hs_ => ((HO350.out).1 k_ hs_.symm).2) (fun hn_ => (Kd.fresh' (Kd.R_lt (by (with_reducible repeat (first | apply Kd.R_alloc | apply Kd.R_drewN | apply Kd.R_drew)); exact HO359.out)) k_ hn_)))) (below_size (by repeat (first | (with_reducible first | exact HB.out | apply below_alloc | apply pw_below_drewN | apply below_drew1) | exact HB.out)))); have n3_ := Aside0.mk (below_step (by repeat (first | (with_reducible first | exact HB.out | apply below_alloc | apply pw_below_drewN | apply below_drew1) | exact HB.out)) hb); clear HO350; clear HO359; clear HB; have HO350 := n0_; have HO359 := n1_; have HO362 := n2_; have HB := n3_; clear n0_ n1_ n2_ n3_; (try clear hb); (try clear hb2); (try clear hk); (try clear hi); (try clear ho0)) | (go_at_call 17; (with_reducible refine (net_Drop.calls (fun k_ => some k_ = (.slice Ao22 t348.length co22 : Value).ownBlock) _ _ t348 a2 t364 t367 _ ?side1 A15.out).mono ?_); (case side1 => exact Kd.R_V (Kd.R_tight rfl (HO350.out))); rintro e w24 ⟨v365, rfl, ho0, hb⟩; have n0_ := Aside0.mk (Kd.R_below (by (with_reducible repeat (first | apply Kd.R_alloc | apply Kd.R_drewN | apply Kd.R_drew)); exact HO350.out) hb); have n1_ := Aside0.mk (Kd.R_below (by (with_reducible repeat (first | apply Kd.R_alloc | apply Kd.R_drewN | apply Kd.R_drew)); exact HO359.out) hb); have n2_ := Aside0.mk (Kd.V_below (by (with_reducible repeat (first | apply Kd.V_alloc | apply Kd.V_drewN | apply Kd.V_drew)); exact HO362.out) hb); have n3_ := Aside0.mk (Kd.V_lower (Kd.V_mono (ok' := fun k_ => some k_ ≠ (v358 : Value).ownBlock) ho0 (fun k_ hk_ => Or.elim hk_ (fun hs_ => ((HO350.out).1 k_ hs_.symm).2) (fun hn_ => (Kd.fresh' (Kd.R_lt (by (with_reducible repeat (first | apply Kd.R_alloc | apply Kd.R_drewN | apply Kd.R_drew)); exact HO359.out)) k_ hn_)))) (below_size (by repeat (first | (with_reducible first | exact HB.out | apply below_alloc | apply pw_below_drewN | apply below_drew1) | exact HB.out)))); have n4_ := Aside0.mk (below_step (by repeat (first | (with_reducible first | exact HB.out | apply below_alloc | apply pw_below_drewN | apply below_drew1) | exact HB.out)) hb); clear HO350; clear HO359; clear HO362; clear HB; have HO350 := n0_; have HO359 := n1_; have HO362 := n2_; have HO366 := n3_; have HB := n4_; clear n0_ n1_ n2_ n3_ n4_; (try clear hb); (try clear hb2); (try clear hk); (try clear hi); (try clear ho0)))
            repeat (go_quiet (first | (go_at_call 21; (with_reducible refine (net_Send.calls (fun k_ => k_ < w.heap.size) _ _ l0 (fun k_ => k_ < w.heap.size) _ _ l1 t348 _ ?side1 ?side2 A11.out).mono ?_); (case side1 => exact Kd.V_mk HC0.out (Kd.F_below (Kd.C_F Kd.heap_string HR0.out) (by repeat (first | (with_reducible first | exact HB.out | apply below_alloc | apply pw_below_drewN | apply below_drew1) | exact HB.out)))); (case side2 => exact Kd.V_mk HC1.out (Kd.F_below (Kd.C_F Kd.heap_string HR1.out) (by repeat (first | (with_reducible first | exact HB.out | apply below_alloc | apply pw_below_drewN | apply below_drew1) | exact HB.out)))); rintro e w17 ⟨v349, rfl, ho0, hb⟩; have n0_ := Aside0.mk (Kd.R_lower (Kd.R_mono (ok' := fun k_ => True) ho0 (fun _ hk_ => trivial)) (below_size (by repeat (first | (with_reducible first | exact HB.out | apply below_alloc | apply pw_below_drewN | apply below_drew1) | exact HB.out)))); have n1_ := Aside0.mk (below_step (by repeat (first | (with_reducible first | exact HB.out | apply below_alloc | apply pw_below_drewN | apply below_drew1) | exact HB.out)) hb); clear HB; have HO350 := n0_; have HB := n1_; clear n0_ n1_; (try clear hb); (try clear hb2); (try clear hk); (try clear hi); (try clear ho0)) | ((with_reducible refine gate_dst (N := 32) rfl ?_); (try (refine gate_guard (by rfl) ?_; dsimp only)); refine Kd.R_lit Kd.string _ 9 ?hg (N := 32) ?hd (xs := ([] : List ByteArray)) (inner := []) (ok := fun _ => True) (okp := fun _ => True) ?hr ?hp (fun _ hk => hk) trivial (Below.refl _ _) (Nat.le_refl _) (by simp) ?_; (case hd => rfl); (case hg => rfl); (case hr => first | (go_simp; done) | (go_simp; rfl)); (case hp => exact (Reps.none _ _)); intro v352 w18 ho19 hb hg_ hnew_; clear hg_ hnew_; (first | rw [← Ny351.out] at ho19 | (simp only [Int.reduceToNat] at ho19; rw [← Ny351.out] at ho19)); have n0_ := Aside0.mk (Kd.R_elder' (by (with_reducible repeat (first | apply Kd.R_alloc | apply Kd.R_drewN | apply Kd.R_drew)); exact HO350.out) (Kd.R_base ho19) hb); have n1_ := Aside0.mk (Kd.R_lower (Kd.R_new' ho19 (Kd.R_lt (by (with_reducible repeat (first | apply Kd.R_alloc | apply Kd.R_drewN | apply Kd.R_drew)); exact HO350.out))) (below_size (by repeat (first | (with_reducible first | exact HB.out | apply below_alloc | apply pw_below_drewN | apply below_drew1) | exact HB.out)))); have n2_ := Aside0.mk (below_step (by repeat (first | (with_reducible first | exact HB.out | apply below_alloc | apply pw_below_drewN | apply below_drew1) | exact HB.out)) hb); clear HO350; clear HB; have HO350 := n0_; have HO353 := n1_; have HB := n2_; clear n0_ n1_ n2_; clear hb ho19) | ((with_reducible refine gate_builtin (b := .append) (xs := #[.tmp 32, .tmp 33]) rfl ?_); (try (refine gate_guard (by rfl) ?_; dsimp only)); at_builtin; refine Kd.R_append_rows Kd.string (w0 := w) w.heap.size rfl (.tmp 32) (.tmp 33) 22 9 (.string ⟨#[]⟩) 16 rfl Try.underlying22 info9 rfl (by decide) (by omega) v352 y351 l0 _ _ _ (fun k_ => some k_ ≠ (v349 : Value).ownBlock) (fun _ => False) rfl rfl ?aO ?aR (fun _ _ h => h) (fun _ h => h.elim) ?aF ?aB ?aS ?aL ?_; (case aR => repeat (first | exact (Kd.C_below HR0.out HB.out) | (with_reducible refine Kd.C_alloc ?_ _) | (with_reducible refine Kd.C_drewN ?_ _) | (with_reducible refine Kd.C_drew ?_))); (case aB => exact (by repeat (first | (with_reducible first | exact HB.out | apply below_alloc | apply pw_below_drewN | apply below_drew1) | exact HB.out))); (case aF => exact (fun k_ hk => Kd.fresh' (Kd.R_lt (by (with_reducible repeat (first | apply Kd.R_alloc | apply Kd.R_drewN | apply Kd.R_drew)); exact HO350.out)) k_ hk)); (case aO => exact (by (with_reducible repeat (first | apply Kd.R_alloc | apply Kd.R_drewN | apply Kd.R_drew)); exact Kd.R_mono HO353.out (fun _ hk => hk.2))); (case aS => exact (below_size (by repeat (first | (with_reducible first | exact HB.out | apply below_alloc | apply pw_below_drewN | apply below_drew1) | exact HB.out)))); (case aL => have := LMc12.out; omega); intro v355 w20 ho hb hg hat; rw [← Ny354.out] at ho; have n0_ := Aside0.mk (Kd.R_after (ok := (fun _ => True)) (by (with_reducible repeat (first | apply Kd.R_alloc | apply Kd.R_drewN | apply Kd.R_drew)); exact HO350.out) hg hat); have n1_ := Aside0.mk (hb); have n2_ := Aside0.mk (ho); clear HO350; clear HB; clear HO353; have HO350 := n0_; have HB := n1_; have HO356 := n2_; clear n0_ n1_ n2_; clear ho hb hg hat) | ((with_reducible refine gate_builtin (b := .append) (xs := #[.tmp 34, .tmp 35]) rfl ?_); (try (refine gate_guard (by rfl) ?_; dsimp only)); at_builtin; refine Kd.R_append_rows Kd.string (w0 := w) w.heap.size rfl (.tmp 34) (.tmp 35) 22 9 (.string ⟨#[]⟩) 16 rfl Try.underlying22 info9 rfl (by decide) (by omega) v355 y354 l1 _ _ _ (fun k_ => some k_ ≠ (v349 : Value).ownBlock) (fun _ => False) rfl rfl ?aO ?aR (fun _ _ h => h) (fun _ h => h.elim) ?aF ?aB ?aS ?aL ?_; (case aR => repeat (first | exact (Kd.C_below HR1.out HB.out) | (with_reducible refine Kd.C_alloc ?_ _) | (with_reducible refine Kd.C_drewN ?_ _) | (with_reducible refine Kd.C_drew ?_))); (case aB => exact (by repeat (first | (with_reducible first | exact HB.out | apply below_alloc | apply pw_below_drewN | apply below_drew1) | exact HB.out))); (case aF => exact (fun k_ hk => Kd.fresh' (Kd.R_lt (by (with_reducible repeat (first | apply Kd.R_alloc | apply Kd.R_drewN | apply Kd.R_drew)); exact HO350.out)) k_ hk)); (case aO => exact (by (with_reducible repeat (first | apply Kd.R_alloc | apply Kd.R_drewN | apply Kd.R_drew)); exact HO356.out)); (case aS => exact (below_size (by repeat (first | (with_reducible first | exact HB.out | apply below_alloc | apply pw_below_drewN | apply below_drew1) | exact HB.out)))); (case aL => have := LMc13.out; omega); intro v358 w21 ho hb hg hat; rw [← Ny357.out] at ho; have n0_ := Aside0.mk (Kd.R_after (ok := (fun _ => True)) (by (with_reducible repeat (first | apply Kd.R_alloc | apply Kd.R_drewN | apply Kd.R_drew)); exact HO350.out) hg hat); have n1_ := Aside0.mk (hb); have n2_ := Aside0.mk (ho); clear HO350; clear HB; clear HO356; have HO350 := n0_; have HB := n1_; have HO359 := n2_; clear n0_ n1_ n2_; clear ho hb hg hat; obtain ⟨Ao22, co22, eo22⟩ := Kd.R_slice HO350.out; subst eo22) | (go_at_call 19; (with_reducible refine (net_Twice.calls (fun k_ => some k_ = (.slice Ao22 t348.length co22 : Value).ownBlock) _ _ t348 a2 t360 t363 _ ?side1 A14.out).mono ?_); (case side1 => exact Kd.R_V (Kd.R_tight rfl (HO350.out))); rintro e w23 ⟨v361, rfl, ho0, hb⟩; have n0_ := Aside0.mk (Kd.R_below (by (with_reducible repeat (first | apply Kd.R_alloc | apply Kd.R_drewN | apply Kd.R_drew)); exact HO350.out) hb); have n1_ := Aside0.mk (Kd.R_below (by (with_reducible repeat (first | apply Kd.R_alloc | apply Kd.R_drewN | apply Kd.R_drew)); exact HO359.out) hb); have n2_ := Aside0.mk (Kd.V_lower (Kd.V_mono (ok' := fun k_ => some k_ ≠ (v358 : Value).ownBlock) ho0 (fun k_ hk_ => Or.elim hk_ (fun hs_ => ((HO350.out).1 k_ hs_.symm).2) (fun hn_ => (Kd.fresh' (Kd.R_lt (by (with_reducible repeat (first | apply Kd.R_alloc | apply Kd.R_drewN | apply Kd.R_drew)); exact HO359.out)) k_ hn_)))) (below_size (by repeat (first | (with_reducible first | exact HB.out | apply below_alloc | apply pw_below_drewN | apply below_drew1) | exact HB.out)))); have n3_ := Aside0.mk (below_step (by repeat (first | (with_reducible first | exact HB.out | apply below_alloc | apply pw_below_drewN | apply below_drew1) | exact HB.out)) hb); clear HO350; clear HO359; clear HB; have HO350 := n0_; have HO359 := n1_; have HO362 := n2_; have HB := n3_; clear n0_ n1_ n2_ n3_; (try clear hb); (try clear hb2); (try clear hk); (try clear hi); (try clear ho0)) | (go_at_call 17; (with_reducible refine (net_Drop.calls (fun k_ => some k_ = (.slice Ao22 t348.length co22 : Value).ownBlock) _ _ t348 a2 t364 t367 _ ?side1 A15.out).mono ?_); (case side1 => exact Kd.R_V (Kd.R_tight rfl (HO350.out))); rintro e w24 ⟨v365, rfl, ho0, hb⟩; have n0_ := Aside0.mk (Kd.R_below (by (with_reducible repeat (first | apply Kd.R_alloc | apply Kd.R_drewN | apply Kd.R_drew)); exact HO350.out) hb); have n1_ := Aside0.mk (Kd.R_below (by (with_reducible repeat (first | apply Kd.R_alloc | apply Kd.R_drewN | apply Kd.R_drew)); exact HO359.out) hb); have n2_ := Aside0.mk (Kd.V_below (by (with_reducible repeat (first | apply Kd.V_alloc | apply Kd.V_drewN | apply Kd.V_drew)); exact HO362.out) hb); have n3_ := Aside0.mk (Kd.V_lower (Kd.V_mono (ok' := fun k_ => some k_ ≠ (v358 : Value).ownBlock) ho0 (fun k_ hk_ => Or.elim hk_ (fun hs_ => ((HO350.out).1 k_ hs_.symm).2) (fun hn_ => (Kd.fresh' (Kd.R_lt (by (with_reducible repeat (first | apply Kd.R_alloc | apply Kd.R_drewN | apply Kd.R_drew)); exact HO359.out)) k_ hn_)))) (below_size (by repeat (first | (with_reducible first | exact HB.out | apply below_alloc | apply pw_below_drewN | apply below_drew1) | exact HB.out)))); have n4_ := Aside0.mk (below_step (by repeat (first | (with_reducible first | exact HB.out | apply below_alloc | apply pw_below_drewN | apply below_drew1) | exact HB.out)) hb); clear HO350; clear HO359; clear HO362; clear HB; have HO350 := n0_; have HO359 := n1_; have HO362 := n2_; have HO366 := n3_; have HB := n4_; clear n0_ n1_ n2_ n3_ n4_; (try clear hb); (try clear hb2); (try clear hk); (try clear hi); (try clear ho0))); go_upto_region 7 with (first | (go_at_call 21; (with_reducible refine (net_Send.calls (fun k_ => k_ < w.heap.size) _ _ l0 (fun k_ => k_ < w.heap.size) _ _ l1 t348 _ ?side1 ?side2 A11.out).mono ?_); (case side1 => exact Kd.V_mk HC0.out (Kd.F_below (Kd.C_F Kd.heap_string HR0.out) (by repeat (first | (with_reducible first | exact HB.out | apply below_alloc | apply pw_below_drewN | apply below_drew1) | exact HB.out)))); (case side2 => exact Kd.V_mk HC1.out (Kd.F_below (Kd.C_F Kd.heap_string HR1.out) (by repeat (first | (with_reducible first | exact HB.out | apply below_alloc | apply pw_below_drewN | apply below_drew1) | exact HB.out)))); rintro e w17 ⟨v349, rfl, ho0, hb⟩; have n0_ := Aside0.mk (Kd.R_lower (Kd.R_mono (ok' := fun k_ => True) ho0 (fun _ hk_ => trivial)) (below_size (by repeat (first | (with_reducible first | exact HB.out | apply below_alloc | apply pw_below_drewN | apply below_drew1) | exact HB.out)))); have n1_ := Aside0.mk (below_step (by repeat (first | (with_reducible first | exact HB.out | apply below_alloc | apply pw_below_drewN | apply below_drew1) | exact HB.out)) hb); clear HB; have HO350 := n0_; have HB := n1_; clear n0_ n1_; (try clear hb); (try clear hb2); (try clear hk); (try clear hi); (try clear ho0)) | ((with_reducible refine gate_dst (N := 32) rfl ?_); (try (refine gate_guard (by rfl) ?_; dsimp only)); refine Kd.R_lit Kd.string _ 9 ?hg (N := 32) ?hd (xs := ([] : List ByteArray)) (inner := []) (ok := fun _ => True) (okp := fun _ => True) ?hr ?hp (fun _ hk => hk) trivial (Below.refl _ _) (Nat.le_refl _) (by simp) ?_; (case hd => rfl); (case hg => rfl); (case hr => first | (go_simp; done) | (go_simp; rfl)); (case hp => exact (Reps.none _ _)); intro v352 w18 ho19 hb hg_ hnew_; clear hg_ hnew_; (first | rw [← Ny351.out] at ho19 | (simp only [Int.reduceToNat] at ho19; rw [← Ny351.out] at ho19)); have n0_ := Aside0.mk (Kd.R_elder' (by (with_reducible repeat (first | apply Kd.R_alloc | apply Kd.R_drewN | apply Kd.R_drew)); exact HO350.out) (Kd.R_base ho19) hb); have n1_ := Aside0.mk (Kd.R_lower (Kd.R_new' ho19 (Kd.R_lt (by (with_reducible repeat (first | apply Kd.R_alloc | apply Kd.R_drewN | apply Kd.R_drew)); exact HO350.out))) (below_size (by repeat (first | (with_reducible first | exact HB.out | apply below_alloc | apply pw_below_drewN | apply below_drew1) | exact HB.out)))); have n2_ := Aside0.mk (below_step (by repeat (first | (with_reducible first | exact HB.out | apply below_alloc | apply pw_below_drewN | apply below_drew1) | exact HB.out)) hb); clear HO350; clear HB; have HO350 := n0_; have HO353 := n1_; have HB := n2_; clear n0_ n1_ n2_; clear hb ho19) | ((with_reducible refine gate_builtin (b := .append) (xs := #[.tmp 32, .tmp 33]) rfl ?_); (try (refine gate_guard (by rfl) ?_; dsimp only)); at_builtin; refine Kd.R_append_rows Kd.string (w0 := w) w.heap.size rfl (.tmp 32) (.tmp 33) 22 9 (.string ⟨#[]⟩) 16 rfl Try.underlying22 info9 rfl (by decide) (by omega) v352 y351 l0 _ _ _ (fun k_ => some k_ ≠ (v349 : Value).ownBlock) (fun _ => False) rfl rfl ?aO ?aR (fun _ _ h => h) (fun _ h => h.elim) ?aF ?aB ?aS ?aL ?_; (case aR => repeat (first | exact (Kd.C_below HR0.out HB.out) | (with_reducible refine Kd.C_alloc ?_ _) | (with_reducible refine Kd.C_drewN ?_ _) | (with_reducible refine Kd.C_drew ?_))); (case aB => exact (by repeat (first | (with_reducible first | exact HB.out | apply below_alloc | apply pw_below_drewN | apply below_drew1) | exact HB.out))); (case aF => exact (fun k_ hk => Kd.fresh' (Kd.R_lt (by (with_reducible repeat (first | apply Kd.R_alloc | apply Kd.R_drewN | apply Kd.R_drew)); exact HO350.out)) k_ hk)); (case aO => exact (by (with_reducible repeat (first | apply Kd.R_alloc | apply Kd.R_drewN | apply Kd.R_drew)); exact Kd.R_mono HO353.out (fun _ hk => hk.2))); (case aS => exact (below_size (by repeat (first | (with_reducible first | exact HB.out | apply below_alloc | apply pw_below_drewN | apply below_drew1) | exact HB.out)))); (case aL => have := LMc12.out; omega); intro v355 w20 ho hb hg hat; rw [← Ny354.out] at ho; have n0_ := Aside0.mk (Kd.R_after (ok := (fun _ => True)) (by (with_reducible repeat (first | apply Kd.R_alloc | apply Kd.R_drewN | apply Kd.R_drew)); exact HO350.out) hg hat); have n1_ := Aside0.mk (hb); have n2_ := Aside0.mk (ho); clear HO350; clear HB; clear HO353; have HO350 := n0_; have HB := n1_; have HO356 := n2_; clear n0_ n1_ n2_; clear ho hb hg hat) | ((with_reducible refine gate_builtin (b := .append) (xs := #[.tmp 34, .tmp 35]) rfl ?_); (try (refine gate_guard (by rfl) ?_; dsimp only)); at_builtin; refine Kd.R_append_rows Kd.string (w0 := w) w.heap.size rfl (.tmp 34) (.tmp 35) 22 9 (.string ⟨#[]⟩) 16 rfl Try.underlying22 info9 rfl (by decide) (by omega) v355 y354 l1 _ _ _ (fun k_ => some k_ ≠ (v349 : Value).ownBlock) (fun _ => False) rfl rfl ?aO ?aR (fun _ _ h => h) (fun _ h => h.elim) ?aF ?aB ?aS ?aL ?_; (case aR => repeat (first | exact (Kd.C_below HR1.out HB.out) | (with_reducible refine Kd.C_alloc ?_ _) | (with_reducible refine Kd.C_drewN ?_ _) | (with_reducible refine Kd.C_drew ?_))); (case aB => exact (by repeat (first | (with_reducible first | exact HB.out | apply below_alloc | apply pw_below_drewN | apply below_drew1) | exact HB.out))); (case aF => exact (fun k_ hk => Kd.fresh' (Kd.R_lt (by (with_reducible repeat (first | apply Kd.R_alloc | apply Kd.R_drewN | apply Kd.R_drew)); exact HO350.out)) k_ hk)); (case aO => exact (by (with_reducible repeat (first | apply Kd.R_alloc | apply Kd.R_drewN | apply Kd.R_drew)); exact HO356.out)); (case aS => exact (below_size (by repeat (first | (with_reducible first | exact HB.out | apply below_alloc | apply pw_below_drewN | apply below_drew1) | exact HB.out)))); (case aL => have := LMc13.out; omega); intro v358 w21 ho hb hg hat; rw [← Ny357.out] at ho; have n0_ := Aside0.mk (Kd.R_after (ok := (fun _ => True)) (by (with_reducible repeat (first | apply Kd.R_alloc | apply Kd.R_drewN | apply Kd.R_drew)); exact HO350.out) hg hat); have n1_ := Aside0.mk (hb); have n2_ := Aside0.mk (ho); clear HO350; clear HB; clear HO356; have HO350 := n0_; have HB := n1_; have HO359 := n2_; clear n0_ n1_ n2_; clear ho hb hg hat; obtain ⟨Ao22, co22, eo22⟩ := Kd.R_slice HO350.out; subst eo22) | (go_at_call 19; (with_reducible refine (net_Twice.calls (fun k_ => some k_ = (.slice Ao22 t348.length co22 : Value).ownBlock) _ _ t348 a2 t360 t363 _ ?side1 A14.out).mono ?_); (case side1 => exact Kd.R_V (Kd.R_tight rfl (HO350.out))); rintro e w23 ⟨v361, rfl, ho0, hb⟩; have n0_ := Aside0.mk (Kd.R_below (by (with_reducible repeat (first | apply Kd.R_alloc | apply Kd.R_drewN | apply Kd.R_drew)); exact HO350.out) hb); have n1_ := Aside0.mk (Kd.R_below (by (with_reducible repeat (first | apply Kd.R_alloc | apply Kd.R_drewN | apply Kd.R_drew)); exact HO359.out) hb); have n2_ := Aside0.mk (Kd.V_lower (Kd.V_mono (ok' := fun k_ => some k_ ≠ (v358 : Value).ownBlock) ho0 (fun k_ hk_ => Or.elim hk_ (fun hs_ => ((HO350.out).1 k_ hs_.symm).2) (fun hn_ => (Kd.fresh' (Kd.R_lt (by (with_reducible repeat (first | apply Kd.R_alloc | apply Kd.R_drewN | apply Kd.R_drew)); exact HO359.out)) k_ hn_)))) (below_size (by repeat (first | (with_reducible first | exact HB.out | apply below_alloc | apply pw_below_drewN | apply below_drew1) | exact HB.out)))); have n3_ := Aside0.mk (below_step (by repeat (first | (with_reducible first | exact HB.out | apply below_alloc | apply pw_below_drewN | apply below_drew1) | exact HB.out)) hb); clear HO350; clear HO359; clear HB; have HO350 := n0_; have HO359 := n1_; have HO362 := n2_; have HB := n3_; clear n0_ n1_ n2_ n3_; (try clear hb); (try clear hb2); (try clear hk); (try clear hi); (try clear ho0)) | (go_at_call 17; (with_reducible refine (net_Drop.calls (fun k_ => some k_ = (.slice Ao22 t348.length co22 : Value).ownBlock) _ _ t348 a2 t364 t367 _ ?side1 A15.out).mono ?_); (case side1 => exact Kd.R_V (Kd.R_tight rfl (HO350.out))); rintro e w24 ⟨v365, rfl, ho0, hb⟩; have n0_ := Aside0.mk (Kd.R_below (by (with_reducible repeat (first | apply Kd.R_alloc | apply Kd.R_drewN | apply Kd.R_drew)); exact HO350.out) hb); have n1_ := Aside0.mk (Kd.R_below (by (with_reducible repeat (first | apply Kd.R_alloc | apply Kd.R_drewN | apply Kd.R_drew)); exact HO359.out) hb); have n2_ := Aside0.mk (Kd.V_below (by (with_reducible repeat (first | apply Kd.V_alloc | apply Kd.V_drewN | apply Kd.V_drew)); exact HO362.out) hb); have n3_ := Aside0.mk (Kd.V_lower (Kd.V_mono (ok' := fun k_ => some k_ ≠ (v358 : Value).ownBlock) ho0 (fun k_ hk_ => Or.elim hk_ (fun hs_ => ((HO350.out).1 k_ hs_.symm).2) (fun hn_ => (Kd.fresh' (Kd.R_lt (by (with_reducible repeat (first | apply Kd.R_alloc | apply Kd.R_drewN | apply Kd.R_drew)); exact HO359.out)) k_ hn_)))) (below_size (by repeat (first | (with_reducible first | exact HB.out | apply below_alloc | apply pw_below_drewN | apply below_drew1) | exact HB.out)))); have n4_ := Aside0.mk (below_step (by repeat (first | (with_reducible first | exact HB.out | apply below_alloc | apply pw_below_drewN | apply below_drew1) | exact HB.out)) hb); clear HO350; clear HO359; clear HO362; clear HB; have HO350 := n0_; have HO359 := n1_; have HO362 := n2_; have HO366 := n3_; have HB := n4_; clear n0_ n1_ n2_ n3_ n4_; (try clear hb); (try clear hb2); (try clear hk); (try clear hi); (try clear ho0))))
            (try simp only [Act.put, List.setIfInBounds_toArray, List.set_cons_zero, List.set_cons_succ])
            go_cut [64] (fun v64 wc => ∃ (kq : Nat) (x64_15 : Bool), v64 = .bool x64_15 ∧ Aside0 (rollcalllaw22_NetTakes.j1 kq a2 t348 y357 t360 t363 t364 x64_15 = some r) ∧ Aside0 (kq ≤ kj3) ∧ Aside0 (Kd.R Kd.string 9 wc w.heap.size (fun k_ => some k_ ≠ (v358 : Value).ownBlock) (.slice Ao22 t348.length co22) t348) ∧ Aside0 (Kd.R Kd.string 9 wc w.heap.size (fun k_ => some k_ ≠ ((.slice Ao22 t348.length co22) : Value).ownBlock) v358 y357) ∧ Aside0 (Kd.V Kd.string 9 wc w.heap.size (fun k_ => some k_ ≠ (v358 : Value).ownBlock) v361 t360) ∧ Aside0 (Kd.V Kd.string 9 wc w.heap.size (fun k_ => some k_ ≠ (v358 : Value).ownBlock) v365 t364) ∧ Aside0 (Below w.heap.size w wc))
            case first =>
              have H := HC16.out
              clear HC16
              by_cases c25 : a2 ≥ 0
              · rw [if_pos c25] at H
                have c25b0 : decide (0 ≤ a2) = true := decide_eq_true c25
                clear c25
                (first | rw [c25b0] | (simp only [i64_w, i32_w]; rw [c25b0]) | skip)
                by_cases c26 : ((t363 == 0) != (decide (a2 < (y357.length : Int)))) = true
                · rw [if_pos c26] at H
                  have c26b0 : ((t363 == 0) != (decide (a2 < (y357.length : Int)))) = true := c26
                  (try (have c26b1 : decide ((t363 == 0) = (decide (a2 < (y357.length : Int)))) = false := by simpa using c26))
                  (try (have c26b2 : ((t363 == 0) == (decide (a2 < (y357.length : Int)))) = false := by simpa using c26))
                  (try (have c26b3 : ¬ ((t363 == 0) = (decide (a2 < (y357.length : Int)))) := by simpa using c26))
                  clear c26
                  have H' := Aside0.mk H
                  clear H
                  obtain ⟨Ao27, co27, eo27⟩ := Kd.R_slice HO359.out
                  subst eo27
                  go_wp2
                  repeat (go_quiet (fail); try go_wp2)
                  go_meet
                  case rel => exact ⟨_, (true), (by first | rfl | (simp; done) | (simp [*]; done)), H', ⟨by have := HJ3.out; first | omega | exact Nat.le_refl _⟩, ⟨by (with_reducible repeat (first | apply Kd.R_alloc | apply Kd.R_drewN | apply Kd.R_drew)); exact Kd.R_mono HO350.out (fun _ hk => hk.2)⟩, ⟨by (with_reducible repeat (first | apply Kd.R_alloc | apply Kd.R_drewN | apply Kd.R_drew)); exact HO359.out⟩, ⟨by (with_reducible repeat (first | apply Kd.V_alloc | apply Kd.V_drewN | apply Kd.V_drew)); exact HO362.out⟩, ⟨by (with_reducible repeat (first | apply Kd.V_alloc | apply Kd.V_drewN | apply Kd.V_drew)); exact HO366.out⟩, ⟨by repeat (first | (with_reducible first | exact HB.out | apply below_alloc | apply pw_below_drewN | apply below_drew1) | exact HB.out)⟩⟩
                · rw [if_neg c26] at H
                  have c26b0 : ((t363 == 0) != (decide (a2 < (y357.length : Int)))) = false := by simpa using c26
                  (try (have c26b1 : decide ((t363 == 0) = (decide (a2 < (y357.length : Int)))) = true := by simpa using c26))
                  (try (have c26b2 : ((t363 == 0) == (decide (a2 < (y357.length : Int)))) = true := by simpa using c26))
                  clear c26
                  have H' := Aside0.mk H
                  clear H
                  obtain ⟨Ao28, co28, eo28⟩ := Kd.R_slice HO359.out
                  subst eo28
                  go_wp2
                  repeat (go_quiet (fail); try go_wp2)
                  go_meet
                  case rel => exact ⟨_, ((t363 != t367)), (by first | rfl | (simp; done) | (simp [*]; done)), H', ⟨by have := HJ3.out; first | omega | exact Nat.le_refl _⟩, ⟨by (with_reducible repeat (first | apply Kd.R_alloc | apply Kd.R_drewN | apply Kd.R_drew)); exact Kd.R_mono HO350.out (fun _ hk => hk.2)⟩, ⟨by (with_reducible repeat (first | apply Kd.R_alloc | apply Kd.R_drewN | apply Kd.R_drew)); exact HO359.out⟩, ⟨by (with_reducible repeat (first | apply Kd.V_alloc | apply Kd.V_drewN | apply Kd.V_drew)); exact HO362.out⟩, ⟨by (with_reducible repeat (first | apply Kd.V_alloc | apply Kd.V_drewN | apply Kd.V_drew)); exact HO366.out⟩, ⟨by repeat (first | (with_reducible first | exact HB.out | apply below_alloc | apply pw_below_drewN | apply below_drew1) | exact HB.out)⟩⟩
              · rw [if_neg c25] at H
                have c25b0 : decide (0 ≤ a2) = false := decide_eq_false c25
                clear c25
                (first | rw [c25b0] | (simp only [i64_w, i32_w]; rw [c25b0]) | skip)
                by_cases c29 : ((t363 == 0) != false) = true
                · rw [if_pos c29] at H
                  have c29b0 : ((t363 == 0) != false) = true := c29
                  (try (have c29b1 : decide ((t363 == 0) = false) = false := by simpa using c29))
                  (try (have c29b2 : ((t363 == 0) == false) = false := by simpa using c29))
                  (try (have c29b3 : ¬ ((t363 == 0) = false) := by simpa using c29))
                  clear c29
                  have H' := Aside0.mk H
                  clear H
                  go_wp2
                  repeat (go_quiet (fail); try go_wp2)
                  go_meet
                  case rel => exact ⟨_, (true), (by first | rfl | (simp; done) | (simp [*]; done)), H', ⟨by have := HJ3.out; first | omega | exact Nat.le_refl _⟩, ⟨by (with_reducible repeat (first | apply Kd.R_alloc | apply Kd.R_drewN | apply Kd.R_drew)); exact Kd.R_mono HO350.out (fun _ hk => hk.2)⟩, ⟨by (with_reducible repeat (first | apply Kd.R_alloc | apply Kd.R_drewN | apply Kd.R_drew)); exact HO359.out⟩, ⟨by (with_reducible repeat (first | apply Kd.V_alloc | apply Kd.V_drewN | apply Kd.V_drew)); exact HO362.out⟩, ⟨by (with_reducible repeat (first | apply Kd.V_alloc | apply Kd.V_drewN | apply Kd.V_drew)); exact HO366.out⟩, ⟨by repeat (first | (with_reducible first | exact HB.out | apply below_alloc | apply pw_below_drewN | apply below_drew1) | exact HB.out)⟩⟩
                · rw [if_neg c29] at H
                  have c29b0 : ((t363 == 0) != false) = false := by simpa using c29
                  (try (have c29b1 : decide ((t363 == 0) = false) = true := by simpa using c29))
                  (try (have c29b2 : ((t363 == 0) == false) = true := by simpa using c29))
                  clear c29
                  have H' := Aside0.mk H
                  clear H
                  go_wp2
                  repeat (go_quiet (fail); try go_wp2)
                  go_meet
                  case rel => exact ⟨_, ((t363 != t367)), (by first | rfl | (simp; done) | (simp [*]; done)), H', ⟨by have := HJ3.out; first | omega | exact Nat.le_refl _⟩, ⟨by (with_reducible repeat (first | apply Kd.R_alloc | apply Kd.R_drewN | apply Kd.R_drew)); exact Kd.R_mono HO350.out (fun _ hk => hk.2)⟩, ⟨by (with_reducible repeat (first | apply Kd.R_alloc | apply Kd.R_drewN | apply Kd.R_drew)); exact HO359.out⟩, ⟨by (with_reducible repeat (first | apply Kd.V_alloc | apply Kd.V_drewN | apply Kd.V_drew)); exact HO362.out⟩, ⟨by (with_reducible repeat (first | apply Kd.V_alloc | apply Kd.V_drewN | apply Kd.V_drew)); exact HO366.out⟩, ⟨by repeat (first | (with_reducible first | exact HB.out | apply below_alloc | apply pw_below_drewN | apply below_drew1) | exact HB.out)⟩⟩
            case rest =>
              clear HC16
              try clear c1
              try clear c2
              try clear p2
              try clear c6
              try clear c8
              try clear c12
              try clear c13
              try clear c25
              try clear c25b0
              try clear c26
              try clear c26b0
              try clear c26b1
              try clear c26b2
              try clear c29
              try clear c29b0
              try clear c29b1
              try clear c29b2
              try clear p2
              obtain ⟨kq, x64_15, rfl, HA, HJ15, HO_7, HO_8, HO_9, HO_11, HB⟩ := hcut
              cases kq with
              | zero => exact absurd HA.out (by simp [rollcalllaw22_NetTakes.j1])
              | succ kj15 =>
                have H := HA.out
                clear HA
                simp only [rollcalllaw22_NetTakes.j1] at H
                by_cases c30 : x64_15 = true
                · subst c30
                  have H1 : (some false) = some r := by rw [if_pos rfl] at H; exact H
                  clear H
                  have H := H1
                  clear H1
                  exact absurd ((Option.some.inj H).trans HT.out) (by simp)
                · replace c30 := Bool.eq_false_iff.mpr c30
                  subst c30
                  have H1 : (if t363 = 0 then (if (t360.length : Int) = (wrap64 ((y357.length : Int) + 1)) then (if 0 ≤ (y357.length : Int) then (if (y357.length : Int) < (t360.length : Int) then (if 0 ≤ a2 then (if a2 < (y357.length : Int) then (if (rdOf ByteArray.empty t360 (y357.length : Int)).toList = (rdOf ByteArray.empty y357 a2).toList then (rollcalllaw22_NetTakes.j2 kj15 a2 t348 y357 t363 t364 ((t364.length : Int) != (wrap64 ((y357.length : Int) - 1)))) else (rollcalllaw22_NetTakes.j2 kj15 a2 t348 y357 t363 t364 true)) else (none)) else (none)) else (none)) else (none)) else (rollcalllaw22_NetTakes.j2 kj15 a2 t348 y357 t363 t364 true)) else (rollcalllaw22_NetTakes.j2 kj15 a2 t348 y357 t363 t364 false)) = some r := by rw [if_neg (show ¬ (false = true) by decide)] at H; exact H
                  clear H
                  have H := H1
                  clear H1
                  have HC31 := Aside0.mk H
                  clear H
                  go_upto_region 9 with (fail)
                  repeat (go_quiet (fail); go_upto_region 9 with (fail))
                  go_cut [94] (fun v94 wc => ∃ (kq : Nat) (x94_30 : Bool), v94 = .bool x94_30 ∧ Aside0 (rollcalllaw22_NetTakes.j2 kq a2 t348 y357 t363 t364 x94_30 = some r) ∧ Aside0 (kq ≤ kj15) ∧ Aside0 (Kd.R Kd.string 9 wc w.heap.size (fun k_ => some k_ ≠ (v358 : Value).ownBlock) (.slice Ao22 t348.length co22) t348) ∧ Aside0 (Kd.R Kd.string 9 wc w.heap.size (fun k_ => some k_ ≠ ((.slice Ao22 t348.length co22) : Value).ownBlock) v358 y357) ∧ Aside0 (Kd.V Kd.string 9 wc w.heap.size (fun k_ => some k_ ≠ (v358 : Value).ownBlock) v365 t364) ∧ Aside0 (Below w.heap.size w wc))
                  case first =>
                    have H := HC31.out
                    clear HC31
                    by_cases c32 : t363 = 0
                    · rw [if_pos c32] at H
                      have c32b0 : (t363 == 0) = true := beq_iff_eq.mpr c32
                      have c32b1 : (t363 != 0) = false := bne_eq_false_iff_eq.mpr c32
                      clear c32
                      (first | rw [c32b0] | (simp only [i64_w, i32_w]; rw [c32b0]) | skip)
                      by_cases c33 : (t360.length : Int) = (wrap64 ((y357.length : Int) + 1))
                      · rw [if_pos c33] at H
                        have c33b0 : ((t360.length : Int) == (wrap64 ((y357.length : Int) + 1))) = true := beq_iff_eq.mpr c33
                        have c33b1 : ((t360.length : Int) != (wrap64 ((y357.length : Int) + 1))) = false := bne_eq_false_iff_eq.mpr c33
                        clear c33
                        by_cases c34 : 0 ≤ (y357.length : Int)
                        · rw [if_pos c34] at H
                          have c34b0 : decide (0 ≤ (y357.length : Int)) = true := decide_eq_true c34
                          have c34b1 : decide (0 ≤ y357.length) = true := decide_eq_true (by omega)
                          clear c34
                          by_cases c35 : (y357.length : Int) < (t360.length : Int)
                          · rw [if_pos c35] at H
                            have c35b0 : decide ((y357.length : Int) < (t360.length : Int)) = true := decide_eq_true c35
                            have c35b1 : decide (y357.length < t360.length) = true := decide_eq_true (Int.ofNat_lt.mp c35)
                            clear c35
                            by_cases c36 : 0 ≤ a2
                            · rw [if_pos c36] at H
                              have c36b0 : decide (0 ≤ a2) = true := decide_eq_true c36
                              clear c36
                              by_cases c37 : a2 < (y357.length : Int)
                              · rw [if_pos c37] at H
                                have c37b0 : decide (a2 < (y357.length : Int)) = true := decide_eq_true c37
                                clear c37
                                by_cases c38 : (rdOf ByteArray.empty t360 (y357.length : Int)).toList = (rdOf ByteArray.empty y357 a2).toList
                                · rw [if_pos c38] at H
                                  have c38b0 : ((rdOf ByteArray.empty t360 (y357.length : Int)).toList == (rdOf ByteArray.empty y357 a2).toList) = true := beq_iff_eq.mpr c38
                                  have c38b1 : ((rdOf ByteArray.empty t360 (y357.length : Int)).toList != (rdOf ByteArray.empty y357 a2).toList) = false := bne_eq_false_iff_eq.mpr c38
                                  clear c38
                                  have H' := Aside0.mk H
                                  clear H
                                  obtain ⟨Ao39, co39, eo39⟩ := Kd.V_slice HO_9.out
                                  subst eo39
                                  obtain ⟨Ao40, co40, eo40⟩ := Kd.R_slice HO_8.out
                                  subst eo40
                                  have p368 : 0 ≤ ((y357.length : Int) : Int) := of_decide_eq_true (by first | (with_reducible assumption) | assumption)
                                  have q368 : (y357.length : Int) < (t360.length : Int) := of_decide_eq_true (by first | (with_reducible assumption) | assumption)
                                  obtain ⟨ad368, e368, hx368_0⟩ := Kd.at_string (Kd.V_reads' HO_9.out).2.2 (y357.length : Int) p368 q368
                                  cases e368
                                  (try simp only [Go.IntWalk.toNatUp] at hx368_0)
                                  replace p368 := eq_true p368
                                  replace q368 := eq_true q368
                                  have p369 : 0 ≤ (a2 : Int) := of_decide_eq_true (by first | (with_reducible assumption) | assumption)
                                  have q369 : a2 < (y357.length : Int) := of_decide_eq_true (by first | (with_reducible assumption) | assumption)
                                  obtain ⟨ad369, e369, hx369_0⟩ := Kd.at_string (Kd.R_reads' HO_8.out).2.2 a2 p369 q369
                                  cases e369
                                  replace p369 := eq_true p369
                                  replace q369 := eq_true q369
                                  obtain ⟨Ao41, co41, eo41⟩ := Kd.V_slice HO_11.out
                                  subst eo41
                                  go_wp2
                                  repeat (go_quiet (fail); try go_wp2)
                                  go_meet
                                  case rel => exact ⟨_, (((t364.length : Int) != (wrap64 ((y357.length : Int) - 1)))), (by first | rfl | (simp; done) | (simp [*]; done)), H', ⟨by have := HJ3.out; have := HJ15.out; first | omega | exact Nat.le_refl _⟩, ⟨by (with_reducible repeat (first | apply Kd.R_alloc | apply Kd.R_drewN | apply Kd.R_drew)); exact HO_7.out⟩, ⟨by (with_reducible repeat (first | apply Kd.R_alloc | apply Kd.R_drewN | apply Kd.R_drew)); exact HO_8.out⟩, ⟨by (with_reducible repeat (first | apply Kd.V_alloc | apply Kd.V_drewN | apply Kd.V_drew)); exact HO_11.out⟩, ⟨by repeat (first | (with_reducible first | exact HB.out | apply below_alloc | apply pw_below_drewN | apply below_drew1) | exact HB.out)⟩⟩
                                · rw [if_neg c38] at H
                                  have c38b0 : ((rdOf ByteArray.empty t360 (y357.length : Int)).toList == (rdOf ByteArray.empty y357 a2).toList) = false := beq_eq_false_iff_ne.mpr c38
                                  have c38b1 : ((rdOf ByteArray.empty t360 (y357.length : Int)).toList != (rdOf ByteArray.empty y357 a2).toList) = true := bne_iff_ne.mpr c38
                                  have H' := Aside0.mk H
                                  clear H
                                  obtain ⟨Ao42, co42, eo42⟩ := Kd.V_slice HO_9.out
                                  subst eo42
                                  obtain ⟨Ao43, co43, eo43⟩ := Kd.R_slice HO_8.out
                                  subst eo43
                                  have p368 : 0 ≤ ((y357.length : Int) : Int) := of_decide_eq_true (by first | (with_reducible assumption) | assumption)
                                  have q368 : (y357.length : Int) < (t360.length : Int) := of_decide_eq_true (by first | (with_reducible assumption) | assumption)
                                  obtain ⟨ad368, e368, hx368_0⟩ := Kd.at_string (Kd.V_reads' HO_9.out).2.2 (y357.length : Int) p368 q368
                                  cases e368
                                  (try simp only [Go.IntWalk.toNatUp] at hx368_0)
                                  replace p368 := eq_true p368
                                  replace q368 := eq_true q368
                                  have p369 : 0 ≤ (a2 : Int) := of_decide_eq_true (by first | (with_reducible assumption) | assumption)
                                  have q369 : a2 < (y357.length : Int) := of_decide_eq_true (by first | (with_reducible assumption) | assumption)
                                  obtain ⟨ad369, e369, hx369_0⟩ := Kd.at_string (Kd.R_reads' HO_8.out).2.2 a2 p369 q369
                                  cases e369
                                  replace p369 := eq_true p369
                                  replace q369 := eq_true q369
                                  go_wp2
                                  repeat (go_quiet (fail); try go_wp2)
                                  go_meet
                                  case rel => exact ⟨_, (true), (by first | rfl | (simp; done) | (simp [*]; done)), H', ⟨by have := HJ3.out; have := HJ15.out; first | omega | exact Nat.le_refl _⟩, ⟨by (with_reducible repeat (first | apply Kd.R_alloc | apply Kd.R_drewN | apply Kd.R_drew)); exact HO_7.out⟩, ⟨by (with_reducible repeat (first | apply Kd.R_alloc | apply Kd.R_drewN | apply Kd.R_drew)); exact HO_8.out⟩, ⟨by (with_reducible repeat (first | apply Kd.V_alloc | apply Kd.V_drewN | apply Kd.V_drew)); exact HO_11.out⟩, ⟨by repeat (first | (with_reducible first | exact HB.out | apply below_alloc | apply pw_below_drewN | apply below_drew1) | exact HB.out)⟩⟩
                              · rw [if_neg c37] at H
                                exact absurd H (by simp)
                            · rw [if_neg c36] at H
                              exact absurd H (by simp)
                          · rw [if_neg c35] at H
                            exact absurd H (by simp)
                        · rw [if_neg c34] at H
                          exact absurd H (by simp)
                      · rw [if_neg c33] at H
                        have c33b0 : ((t360.length : Int) == (wrap64 ((y357.length : Int) + 1))) = false := beq_eq_false_iff_ne.mpr c33
                        have c33b1 : ((t360.length : Int) != (wrap64 ((y357.length : Int) + 1))) = true := bne_iff_ne.mpr c33
                        have H' := Aside0.mk H
                        clear H
                        obtain ⟨Ao44, co44, eo44⟩ := Kd.V_slice HO_9.out
                        subst eo44
                        obtain ⟨Ao45, co45, eo45⟩ := Kd.R_slice HO_8.out
                        subst eo45
                        go_wp2
                        repeat (go_quiet (fail); try go_wp2)
                        go_meet
                        case rel => exact ⟨_, (true), (by first | rfl | (simp; done) | (simp [*]; done)), H', ⟨by have := HJ3.out; have := HJ15.out; first | omega | exact Nat.le_refl _⟩, ⟨by (with_reducible repeat (first | apply Kd.R_alloc | apply Kd.R_drewN | apply Kd.R_drew)); exact HO_7.out⟩, ⟨by (with_reducible repeat (first | apply Kd.R_alloc | apply Kd.R_drewN | apply Kd.R_drew)); exact HO_8.out⟩, ⟨by (with_reducible repeat (first | apply Kd.V_alloc | apply Kd.V_drewN | apply Kd.V_drew)); exact HO_11.out⟩, ⟨by repeat (first | (with_reducible first | exact HB.out | apply below_alloc | apply pw_below_drewN | apply below_drew1) | exact HB.out)⟩⟩
                    · rw [if_neg c32] at H
                      have c32b0 : (t363 == 0) = false := beq_eq_false_iff_ne.mpr c32
                      have c32b1 : (t363 != 0) = true := bne_iff_ne.mpr c32
                      (first | rw [c32b0] | (simp only [i64_w, i32_w]; rw [c32b0]) | skip)
                      have H' := Aside0.mk H
                      clear H
                      go_wp2
                      repeat (go_quiet (fail); try go_wp2)
                      go_meet
                      case rel => exact ⟨_, (false), (by first | rfl | (simp; done) | (simp [*]; done)), H', ⟨by have := HJ3.out; have := HJ15.out; first | omega | exact Nat.le_refl _⟩, ⟨by (with_reducible repeat (first | apply Kd.R_alloc | apply Kd.R_drewN | apply Kd.R_drew)); exact HO_7.out⟩, ⟨by (with_reducible repeat (first | apply Kd.R_alloc | apply Kd.R_drewN | apply Kd.R_drew)); exact HO_8.out⟩, ⟨by (with_reducible repeat (first | apply Kd.V_alloc | apply Kd.V_drewN | apply Kd.V_drew)); exact HO_11.out⟩, ⟨by repeat (first | (with_reducible first | exact HB.out | apply below_alloc | apply pw_below_drewN | apply below_drew1) | exact HB.out)⟩⟩
                  case rest =>
                    clear HC31
                    try clear c1
                    try clear c2
                    try clear p2
                    try clear c3
                    try clear p3
                    try clear q3
                    try clear hx3
                    try clear c6
                    try clear p6
                    try clear c8
                    try clear c12
                    try clear c13
                    try clear c25
                    try clear c25b0
                    try clear c26
                    try clear c26b0
                    try clear c26b1
                    try clear c26b2
                    try clear c29
                    try clear c29b0
                    try clear c29b1
                    try clear c29b2
                    try clear c30
                    try clear c32
                    try clear c32b0
                    try clear c32b1
                    try clear c33
                    try clear c33b0
                    try clear c33b1
                    try clear c34
                    try clear c34b0
                    try clear c34b1
                    try clear c35
                    try clear c35b0
                    try clear c35b1
                    try clear c36
                    try clear c36b0
                    try clear p36
                    try clear q36
                    try clear hx36
                    try clear c37
                    try clear c37b0
                    try clear c38
                    try clear c38b0
                    try clear c38b1
                    try clear hx368_0
                    try clear hx369_0
                    try clear p2
                    try clear p368
                    try clear p369
                    try clear q368
                    try clear q369
                    obtain ⟨kq, x94_30, rfl, HA, HJ30, HO_7, HO_8, HO_11, HB⟩ := hcut
                    cases kq with
                    | zero => exact absurd HA.out (by simp [rollcalllaw22_NetTakes.j2])
                    | succ kj30 =>
                      have H := HA.out
                      clear HA
                      simp only [rollcalllaw22_NetTakes.j2] at H
                      by_cases c46 : x94_30 = true
                      · subst c46
                        have H1 : (some false) = some r := by rw [if_pos rfl] at H; exact H
                        clear H
                        have H := H1
                        clear H1
                        exact absurd ((Option.some.inj H).trans HT.out) (by simp)
                      · replace c46 := Bool.eq_false_iff.mpr c46
                        subst c46
                        have H1 : (rollcalllaw22_NetTakes.l0 kj30 a2 t348 y357 t363 t364 0) = some r := by rw [if_neg (show ¬ (false = true) by decide)] at H; exact H
                        clear H
                        have H := H1
                        clear H1
                        have H' := Aside0.mk H
                        clear H
                        go_wp2
                        repeat (go_quiet (fail); try go_wp2)
                        go_loopg [7, 11, 13] kj30 (fun kq v7 v11 v13 w' => ∃ (x7_4 : List ByteArray) (x11_4 : List ByteArray) (x13_4 : Int), v13 = .int .i64 x13_4 ∧ Aside0 (rollcalllaw22_NetTakes.l0 kq a2 x7_4 y357 t363 x11_4 x13_4 = some r) ∧ Aside0 (kq ≤ kj30) ∧ Aside0 (Kd.V Kd.string 9 w' w.heap.size (fun k_ => some k_ ≠ (v358 : Value).ownBlock) v7 x7_4) ∧ Aside0 (Kd.R Kd.string 9 w' w.heap.size (fun _ => True) v358 y357) ∧ Aside0 (Kd.V Kd.string 9 w' w.heap.size (fun k_ => some k_ ≠ (v358 : Value).ownBlock) v11 x11_4) ∧ Aside0 (Below w.heap.size w w'))
                        case atStart => exact ⟨(t348), (t364), (0), (by first | rfl | (simp; done) | (simp [*]; done)), H', ⟨Nat.le_refl _⟩, ⟨Kd.R_V (by (with_reducible repeat (first | apply Kd.R_alloc | apply Kd.R_drewN | apply Kd.R_drew)); exact HO_7.out)⟩, ⟨by (with_reducible repeat (first | apply Kd.R_alloc | apply Kd.R_drewN | apply Kd.R_drew)); exact Kd.R_mono HO_8.out (fun _ hk => trivial)⟩, ⟨by (with_reducible repeat (first | apply Kd.V_alloc | apply Kd.V_drewN | apply Kd.V_drew)); exact HO_11.out⟩, ⟨by repeat (first | (with_reducible first | exact HB.out | apply below_alloc | apply pw_below_drewN | apply below_drew1) | exact HB.out)⟩⟩
                        case round =>
                          clear H'
                          try clear c1
                          try clear c2
                          try clear p2
                          try clear c3
                          try clear p3
                          try clear q3
                          try clear hx3
                          try clear c4
                          try clear c6
                          try clear p6
                          try clear c8
                          try clear c12
                          try clear c13
                          try clear c25
                          try clear c25b0
                          try clear c26
                          try clear c26b0
                          try clear c26b1
                          try clear c26b2
                          try clear c29
                          try clear c29b0
                          try clear c29b1
                          try clear c29b2
                          try clear c30
                          try clear c32
                          try clear c32b0
                          try clear c32b1
                          try clear c33
                          try clear c33b0
                          try clear c33b1
                          try clear c34
                          try clear c34b0
                          try clear c34b1
                          try clear c35
                          try clear c35b0
                          try clear c35b1
                          try clear c36
                          try clear c36b0
                          try clear p36
                          try clear q36
                          try clear hx36
                          try clear c37
                          try clear c37b0
                          try clear c38
                          try clear c38b0
                          try clear c38b1
                          try clear c46
                          try clear hx368_0
                          try clear hx369_0
                          try clear p2
                          try clear p3
                          try clear p36
                          try clear p368
                          try clear p369
                          try clear p6
                          try clear q3
                          try clear q36
                          try clear q368
                          try clear q369
                          obtain ⟨x7_4, x11_4, x13_4, rfl, HA, HK4, HO_7, HO_8, HO_11, HB⟩ := hrel
                          cases gk with
                          | zero => exact absurd HA.out (by simp [rollcalllaw22_NetTakes.l0])
                          | succ k4 =>
                            have H := HA.out
                            clear HA
                            simp only [rollcalllaw22_NetTakes.l0] at H
                            by_cases c47 : x13_4 < (y357.length : Int)
                            · rw [if_pos c47] at H
                              have c47b0 : decide (x13_4 < (y357.length : Int)) = true := decide_eq_true c47
                              clear c47
                              replace H := Option.bind_eq_some_iff.mp H
                              obtain ⟨⟨t372, t373, t376⟩, A480, H⟩ := H
                              replace H : (if t376 = 0 then (if 0 ≤ x13_4 then (rollcalllaw22_NetTakes.j4 k4 a2 y357 t363 x11_4 x13_4 t373 (t372.toList != (rdOf ByteArray.empty y357 x13_4).toList)) else (none)) else (rollcalllaw22_NetTakes.j4 k4 a2 y357 t363 x11_4 x13_4 t373 true)) = some r := H
                              have A48 := Aside0.mk A480
                              clear A480
                              have HC49 := Aside0.mk H
                              clear H
                              obtain ⟨Ao50, co50, eo50⟩ := Kd.R_slice HO_8.out
                              subst eo50
                              obtain ⟨Ao51, co51, eo51⟩ := Kd.V_slice HO_7.out
                              subst eo51
                              go_upto_region 15 with (first | (go_at_call 15; (with_reducible refine (net_Take.calls (fun k_ => some k_ ≠ (.slice Ao50 y357.length co50 : Value).ownBlock) _ _ x7_4 0 t372 t373 t376 _ ?side1 A48.out).mono ?_); (case side1 => exact HO_7.out); rintro e w52 ⟨v374, rfl, ho0, hb⟩; have n0_ := Aside0.mk (Kd.V_below (by (with_reducible repeat (first | apply Kd.V_alloc | apply Kd.V_drewN | apply Kd.V_drew)); exact HO_7.out) hb); have n1_ := Aside0.mk (Kd.R_below (by (with_reducible repeat (first | apply Kd.R_alloc | apply Kd.R_drewN | apply Kd.R_drew)); exact HO_8.out) hb); have n2_ := Aside0.mk (Kd.V_below (by (with_reducible repeat (first | apply Kd.V_alloc | apply Kd.V_drewN | apply Kd.V_drew)); exact HO_11.out) hb); have n3_ := Aside0.mk (Kd.V_lower (Kd.V_mono (ok' := fun k_ => some k_ ≠ (.slice Ao50 y357.length co50 : Value).ownBlock) ho0 (fun k_ hk_ => Or.elim hk_ (fun hs_ => hs_) (fun hn_ => (Kd.fresh' (Kd.R_lt (by (with_reducible repeat (first | apply Kd.R_alloc | apply Kd.R_drewN | apply Kd.R_drew)); exact HO_8.out)) k_ hn_)))) (below_size (by repeat (first | (with_reducible first | exact HB.out | apply below_alloc | apply pw_below_drewN | apply below_drew1) | exact HB.out)))); have n4_ := Aside0.mk (below_step (by repeat (first | (with_reducible first | exact HB.out | apply below_alloc | apply pw_below_drewN | apply below_drew1) | exact HB.out)) hb); clear HO_7; clear HO_8; clear HO_11; clear HB; have HO_7 := n0_; have HO_8 := n1_; have HO_11 := n2_; have HO375 := n3_; have HB := n4_; clear n0_ n1_ n2_ n3_ n4_; (try clear hb); (try clear hb2); (try clear hk); (try clear hi); (try clear ho0)))
                              repeat (go_quiet (first | (go_at_call 15; (with_reducible refine (net_Take.calls (fun k_ => some k_ ≠ (.slice Ao50 y357.length co50 : Value).ownBlock) _ _ x7_4 0 t372 t373 t376 _ ?side1 A48.out).mono ?_); (case side1 => exact HO_7.out); rintro e w52 ⟨v374, rfl, ho0, hb⟩; have n0_ := Aside0.mk (Kd.V_below (by (with_reducible repeat (first | apply Kd.V_alloc | apply Kd.V_drewN | apply Kd.V_drew)); exact HO_7.out) hb); have n1_ := Aside0.mk (Kd.R_below (by (with_reducible repeat (first | apply Kd.R_alloc | apply Kd.R_drewN | apply Kd.R_drew)); exact HO_8.out) hb); have n2_ := Aside0.mk (Kd.V_below (by (with_reducible repeat (first | apply Kd.V_alloc | apply Kd.V_drewN | apply Kd.V_drew)); exact HO_11.out) hb); have n3_ := Aside0.mk (Kd.V_lower (Kd.V_mono (ok' := fun k_ => some k_ ≠ (.slice Ao50 y357.length co50 : Value).ownBlock) ho0 (fun k_ hk_ => Or.elim hk_ (fun hs_ => hs_) (fun hn_ => (Kd.fresh' (Kd.R_lt (by (with_reducible repeat (first | apply Kd.R_alloc | apply Kd.R_drewN | apply Kd.R_drew)); exact HO_8.out)) k_ hn_)))) (below_size (by repeat (first | (with_reducible first | exact HB.out | apply below_alloc | apply pw_below_drewN | apply below_drew1) | exact HB.out)))); have n4_ := Aside0.mk (below_step (by repeat (first | (with_reducible first | exact HB.out | apply below_alloc | apply pw_below_drewN | apply below_drew1) | exact HB.out)) hb); clear HO_7; clear HO_8; clear HO_11; clear HB; have HO_7 := n0_; have HO_8 := n1_; have HO_11 := n2_; have HO375 := n3_; have HB := n4_; clear n0_ n1_ n2_ n3_ n4_; (try clear hb); (try clear hb2); (try clear hk); (try clear hi); (try clear ho0))); go_upto_region 15 with (first | (go_at_call 15; (with_reducible refine (net_Take.calls (fun k_ => some k_ ≠ (.slice Ao50 y357.length co50 : Value).ownBlock) _ _ x7_4 0 t372 t373 t376 _ ?side1 A48.out).mono ?_); (case side1 => exact HO_7.out); rintro e w52 ⟨v374, rfl, ho0, hb⟩; have n0_ := Aside0.mk (Kd.V_below (by (with_reducible repeat (first | apply Kd.V_alloc | apply Kd.V_drewN | apply Kd.V_drew)); exact HO_7.out) hb); have n1_ := Aside0.mk (Kd.R_below (by (with_reducible repeat (first | apply Kd.R_alloc | apply Kd.R_drewN | apply Kd.R_drew)); exact HO_8.out) hb); have n2_ := Aside0.mk (Kd.V_below (by (with_reducible repeat (first | apply Kd.V_alloc | apply Kd.V_drewN | apply Kd.V_drew)); exact HO_11.out) hb); have n3_ := Aside0.mk (Kd.V_lower (Kd.V_mono (ok' := fun k_ => some k_ ≠ (.slice Ao50 y357.length co50 : Value).ownBlock) ho0 (fun k_ hk_ => Or.elim hk_ (fun hs_ => hs_) (fun hn_ => (Kd.fresh' (Kd.R_lt (by (with_reducible repeat (first | apply Kd.R_alloc | apply Kd.R_drewN | apply Kd.R_drew)); exact HO_8.out)) k_ hn_)))) (below_size (by repeat (first | (with_reducible first | exact HB.out | apply below_alloc | apply pw_below_drewN | apply below_drew1) | exact HB.out)))); have n4_ := Aside0.mk (below_step (by repeat (first | (with_reducible first | exact HB.out | apply below_alloc | apply pw_below_drewN | apply below_drew1) | exact HB.out)) hb); clear HO_7; clear HO_8; clear HO_11; clear HB; have HO_7 := n0_; have HO_8 := n1_; have HO_11 := n2_; have HO375 := n3_; have HB := n4_; clear n0_ n1_ n2_ n3_ n4_; (try clear hb); (try clear hb2); (try clear hk); (try clear hi); (try clear ho0))))
                              (try simp only [Act.put, List.setIfInBounds_toArray, List.set_cons_zero, List.set_cons_succ])
                              go_cut [116] (fun v116 wc => ∃ (kq : Nat) (x116_48 : Bool), v116 = .bool x116_48 ∧ Aside0 (rollcalllaw22_NetTakes.j4 kq a2 y357 t363 x11_4 x13_4 t373 x116_48 = some r) ∧ Aside0 (kq ≤ k4) ∧ Aside0 (Kd.R Kd.string 9 wc w.heap.size (fun _ => True) (.slice Ao50 y357.length co50) y357) ∧ Aside0 (Kd.V Kd.string 9 wc w.heap.size (fun k_ => some k_ ≠ ((.slice Ao50 y357.length co50) : Value).ownBlock) u11 x11_4) ∧ Aside0 (Kd.V Kd.string 9 wc w.heap.size (fun k_ => some k_ ≠ ((.slice Ao50 y357.length co50) : Value).ownBlock) v374 t373) ∧ Aside0 (Below w.heap.size w wc))
                              case first =>
                                have H := HC49.out
                                clear HC49
                                by_cases c53 : t376 = 0
                                · rw [if_pos c53] at H
                                  have c53b0 : (t376 == 0) = true := beq_iff_eq.mpr c53
                                  have c53b1 : (t376 != 0) = false := bne_eq_false_iff_eq.mpr c53
                                  clear c53
                                  (first | rw [c53b0] | (simp only [i64_w, i32_w]; rw [c53b0]) | skip)
                                  by_cases c54 : 0 ≤ x13_4
                                  · rw [if_pos c54] at H
                                    have c54b0 : decide (0 ≤ x13_4) = true := decide_eq_true c54
                                    clear c54
                                    have H' := Aside0.mk H
                                    clear H
                                    have p377 : 0 ≤ (x13_4 : Int) := of_decide_eq_true (by first | (with_reducible assumption) | assumption)
                                    have q377 : x13_4 < (y357.length : Int) := of_decide_eq_true (by first | (with_reducible assumption) | assumption)
                                    obtain ⟨ad377, e377, hx377_0⟩ := Kd.at_string (Kd.R_reads' HO_8.out).2.2 x13_4 p377 q377
                                    cases e377
                                    replace p377 := eq_true p377
                                    replace q377 := eq_true q377
                                    go_wp2
                                    repeat (go_quiet (fail); try go_wp2)
                                    go_meet
                                    case rel => exact ⟨_, ((t372.toList != (rdOf ByteArray.empty y357 x13_4).toList)), (by first | rfl | (simp; done) | (simp [*]; done)), H', ⟨by have := HJ3.out; have := HJ15.out; have := HJ30.out; have := HK4.out; first | omega | exact Nat.le_refl _⟩, ⟨by (with_reducible repeat (first | apply Kd.R_alloc | apply Kd.R_drewN | apply Kd.R_drew)); exact HO_8.out⟩, ⟨by (with_reducible repeat (first | apply Kd.V_alloc | apply Kd.V_drewN | apply Kd.V_drew)); exact HO_11.out⟩, ⟨by (with_reducible repeat (first | apply Kd.V_alloc | apply Kd.V_drewN | apply Kd.V_drew)); exact HO375.out⟩, ⟨by repeat (first | (with_reducible first | exact HB.out | apply below_alloc | apply pw_below_drewN | apply below_drew1) | exact HB.out)⟩⟩
                                  · rw [if_neg c54] at H
                                    exact absurd H (by simp)
                                · rw [if_neg c53] at H
                                  have c53b0 : (t376 == 0) = false := beq_eq_false_iff_ne.mpr c53
                                  have c53b1 : (t376 != 0) = true := bne_iff_ne.mpr c53
                                  (first | rw [c53b0] | (simp only [i64_w, i32_w]; rw [c53b0]) | skip)
                                  have H' := Aside0.mk H
                                  clear H
                                  go_wp2
                                  repeat (go_quiet (fail); try go_wp2)
                                  go_meet
                                  case rel => exact ⟨_, (true), (by first | rfl | (simp; done) | (simp [*]; done)), H', ⟨by have := HJ3.out; have := HJ15.out; have := HJ30.out; have := HK4.out; first | omega | exact Nat.le_refl _⟩, ⟨by (with_reducible repeat (first | apply Kd.R_alloc | apply Kd.R_drewN | apply Kd.R_drew)); exact HO_8.out⟩, ⟨by (with_reducible repeat (first | apply Kd.V_alloc | apply Kd.V_drewN | apply Kd.V_drew)); exact HO_11.out⟩, ⟨by (with_reducible repeat (first | apply Kd.V_alloc | apply Kd.V_drewN | apply Kd.V_drew)); exact HO375.out⟩, ⟨by repeat (first | (with_reducible first | exact HB.out | apply below_alloc | apply pw_below_drewN | apply below_drew1) | exact HB.out)⟩⟩
                              case rest =>
                                clear HC49
                                try clear c1
                                try clear c2
                                try clear p2
                                try clear c3
                                try clear p3
                                try clear q3
                                try clear hx3
                                try clear c4
                                try clear c5
                                try clear c6
                                try clear p6
                                try clear c8
                                try clear c12
                                try clear c13
                                try clear c25
                                try clear c25b0
                                try clear c26
                                try clear c26b0
                                try clear c26b1
                                try clear c26b2
                                try clear c29
                                try clear c29b0
                                try clear c29b1
                                try clear c29b2
                                try clear c30
                                try clear c32
                                try clear c32b0
                                try clear c32b1
                                try clear c33
                                try clear c33b0
                                try clear c33b1
                                try clear c34
                                try clear c34b0
                                try clear c34b1
                                try clear c35
                                try clear c35b0
                                try clear c35b1
                                try clear c36
                                try clear c36b0
                                try clear p36
                                try clear q36
                                try clear hx36
                                try clear c37
                                try clear c37b0
                                try clear p37
                                try clear q37
                                try clear hx37
                                try clear c38
                                try clear c38b0
                                try clear c38b1
                                try clear c46
                                try clear c47
                                try clear c47b0
                                try clear c53
                                try clear c53b0
                                try clear c53b1
                                try clear c54
                                try clear c54b0
                                try clear hx368_0
                                try clear hx369_0
                                try clear hx377_0
                                try clear p2
                                try clear p3
                                try clear p36
                                try clear p368
                                try clear p369
                                try clear p377
                                try clear p6
                                try clear q3
                                try clear q36
                                try clear q368
                                try clear q369
                                try clear q377
                                obtain ⟨kq, x116_48, rfl, HA, HJ48, HO_8, HO_11, HO_15, HB⟩ := hcut
                                cases kq with
                                | zero => exact absurd HA.out (by simp [rollcalllaw22_NetTakes.j4])
                                | succ kj48 =>
                                  have H := HA.out
                                  clear HA
                                  simp only [rollcalllaw22_NetTakes.j4] at H
                                  by_cases c55 : x116_48 = true
                                  · subst c55
                                    have H1 : (some false) = some r := by rw [if_pos rfl] at H; exact H
                                    clear H
                                    have H := H1
                                    clear H1
                                    exact absurd ((Option.some.inj H).trans HT.out) (by simp)
                                  · replace c55 := Bool.eq_false_iff.mpr c55
                                    subst c55
                                    have H1 : (if t363 = 0 then (rollcalllaw22_NetTakes.j5 kj48 a2 y357 t363 x11_4 x13_4 t373 (x13_4 != a2)) else (rollcalllaw22_NetTakes.j5 kj48 a2 y357 t363 x11_4 x13_4 t373 false)) = some r := by rw [if_neg (show ¬ (false = true) by decide)] at H; exact H
                                    clear H
                                    have H := H1
                                    clear H1
                                    have HC56 := Aside0.mk H
                                    clear H
                                    go_upto_region 17 with (fail)
                                    repeat (go_quiet (fail); go_upto_region 17 with (fail))
                                    go_cut [123] (fun v123 wc => ∃ (kq : Nat) (x123_55 : Bool), v123 = .bool x123_55 ∧ Aside0 (rollcalllaw22_NetTakes.j5 kq a2 y357 t363 x11_4 x13_4 t373 x123_55 = some r) ∧ Aside0 (kq ≤ kj48) ∧ Aside0 (Kd.R Kd.string 9 wc w.heap.size (fun _ => True) (.slice Ao50 y357.length co50) y357) ∧ Aside0 (Kd.V Kd.string 9 wc w.heap.size (fun k_ => some k_ ≠ ((.slice Ao50 y357.length co50) : Value).ownBlock) u11 x11_4) ∧ Aside0 (Kd.V Kd.string 9 wc w.heap.size (fun k_ => some k_ ≠ ((.slice Ao50 y357.length co50) : Value).ownBlock) v374 t373) ∧ Aside0 (Below w.heap.size w wc))
                                    case first =>
                                      have H := HC56.out
                                      clear HC56
                                      by_cases c57 : t363 = 0
                                      · rw [if_pos c57] at H
                                        have c57b0 : (t363 == 0) = true := beq_iff_eq.mpr c57
                                        have c57b1 : (t363 != 0) = false := bne_eq_false_iff_eq.mpr c57
                                        clear c57
                                        (first | rw [c57b0] | (simp only [i64_w, i32_w]; rw [c57b0]) | skip)
                                        have H' := Aside0.mk H
                                        clear H
                                        go_wp2
                                        repeat (go_quiet (fail); try go_wp2)
                                        go_meet
                                        case rel => exact ⟨_, ((x13_4 != a2)), (by first | rfl | (simp; done) | (simp [*]; done)), H', ⟨by have := HJ3.out; have := HJ15.out; have := HJ30.out; have := HK4.out; have := HJ48.out; first | omega | exact Nat.le_refl _⟩, ⟨by (with_reducible repeat (first | apply Kd.R_alloc | apply Kd.R_drewN | apply Kd.R_drew)); exact HO_8.out⟩, ⟨by (with_reducible repeat (first | apply Kd.V_alloc | apply Kd.V_drewN | apply Kd.V_drew)); exact HO_11.out⟩, ⟨by (with_reducible repeat (first | apply Kd.V_alloc | apply Kd.V_drewN | apply Kd.V_drew)); exact HO_15.out⟩, ⟨by repeat (first | (with_reducible first | exact HB.out | apply below_alloc | apply pw_below_drewN | apply below_drew1) | exact HB.out)⟩⟩
                                      · rw [if_neg c57] at H
                                        have c57b0 : (t363 == 0) = false := beq_eq_false_iff_ne.mpr c57
                                        have c57b1 : (t363 != 0) = true := bne_iff_ne.mpr c57
                                        (first | rw [c57b0] | (simp only [i64_w, i32_w]; rw [c57b0]) | skip)
                                        have H' := Aside0.mk H
                                        clear H
                                        go_wp2
                                        repeat (go_quiet (fail); try go_wp2)
                                        go_meet
                                        case rel => exact ⟨_, (false), (by first | rfl | (simp; done) | (simp [*]; done)), H', ⟨by have := HJ3.out; have := HJ15.out; have := HJ30.out; have := HK4.out; have := HJ48.out; first | omega | exact Nat.le_refl _⟩, ⟨by (with_reducible repeat (first | apply Kd.R_alloc | apply Kd.R_drewN | apply Kd.R_drew)); exact HO_8.out⟩, ⟨by (with_reducible repeat (first | apply Kd.V_alloc | apply Kd.V_drewN | apply Kd.V_drew)); exact HO_11.out⟩, ⟨by (with_reducible repeat (first | apply Kd.V_alloc | apply Kd.V_drewN | apply Kd.V_drew)); exact HO_15.out⟩, ⟨by repeat (first | (with_reducible first | exact HB.out | apply below_alloc | apply pw_below_drewN | apply below_drew1) | exact HB.out)⟩⟩
                                    case rest =>
                                      clear HC56
                                      try clear c1
                                      try clear c2
                                      try clear p2
                                      try clear c3
                                      try clear p3
                                      try clear q3
                                      try clear hx3
                                      try clear c4
                                      try clear c5
                                      try clear c6
                                      try clear p6
                                      try clear c8
                                      try clear c12
                                      try clear c13
                                      try clear c25
                                      try clear c25b0
                                      try clear c26
                                      try clear c26b0
                                      try clear c26b1
                                      try clear c26b2
                                      try clear c29
                                      try clear c29b0
                                      try clear c29b1
                                      try clear c29b2
                                      try clear c30
                                      try clear c32
                                      try clear c32b0
                                      try clear c32b1
                                      try clear c33
                                      try clear c33b0
                                      try clear c33b1
                                      try clear c34
                                      try clear c34b0
                                      try clear c34b1
                                      try clear c35
                                      try clear c35b0
                                      try clear c35b1
                                      try clear c36
                                      try clear c36b0
                                      try clear p36
                                      try clear q36
                                      try clear hx36
                                      try clear c37
                                      try clear c37b0
                                      try clear p37
                                      try clear q37
                                      try clear hx37
                                      try clear c38
                                      try clear c38b0
                                      try clear c38b1
                                      try clear c46
                                      try clear c47
                                      try clear c47b0
                                      try clear c53
                                      try clear c53b0
                                      try clear c53b1
                                      try clear c54
                                      try clear c54b0
                                      try clear c55
                                      try clear c57
                                      try clear c57b0
                                      try clear c57b1
                                      try clear hx368_0
                                      try clear hx369_0
                                      try clear hx377_0
                                      try clear p2
                                      try clear p3
                                      try clear p36
                                      try clear p368
                                      try clear p369
                                      try clear p37
                                      try clear p377
                                      try clear p6
                                      try clear q3
                                      try clear q36
                                      try clear q368
                                      try clear q369
                                      try clear q37
                                      try clear q377
                                      obtain ⟨kq, x123_55, rfl, HA, HJ55, HO_8, HO_11, HO_15, HB⟩ := hcut
                                      cases kq with
                                      | zero => exact absurd HA.out (by simp [rollcalllaw22_NetTakes.j5])
                                      | succ kj55 =>
                                        have H := HA.out
                                        clear HA
                                        simp only [rollcalllaw22_NetTakes.j5] at H
                                        by_cases c58 : x123_55 = true
                                        · subst c58
                                          have H1 : ((net_Take.f x11_4 0).bind fun bt378 => (if bt378.2.2 = 0 then (if 0 ≤ x13_4 then (if x13_4 < (y357.length : Int) then (if bt378.1.toList = (rdOf ByteArray.empty y357 x13_4).toList then (rollcalllaw22_NetTakes.l0 kj55 a2 t373 y357 t363 bt378.2.1 (wrap64 (x13_4 + 1))) else (some false)) else (none)) else (none)) else (some false))) = some r := by rw [if_pos rfl] at H; exact H
                                          clear H
                                          have H := H1
                                          clear H1
                                          replace H := Option.bind_eq_some_iff.mp H
                                          obtain ⟨⟨t378, t379, t382⟩, A590, H⟩ := H
                                          replace H : (if t382 = 0 then (if 0 ≤ x13_4 then (if x13_4 < (y357.length : Int) then (if t378.toList = (rdOf ByteArray.empty y357 x13_4).toList then (rollcalllaw22_NetTakes.l0 kj55 a2 t373 y357 t363 t379 (wrap64 (x13_4 + 1))) else (some false)) else (none)) else (none)) else (some false)) = some r := H
                                          have A59 := Aside0.mk A590
                                          clear A590
                                          by_cases c60 : t382 = 0
                                          · rw [if_pos c60] at H
                                            have c60b0 : (t382 == 0) = true := beq_iff_eq.mpr c60
                                            have c60b1 : (t382 != 0) = false := bne_eq_false_iff_eq.mpr c60
                                            clear c60
                                            by_cases c61 : 0 ≤ x13_4
                                            · rw [if_pos c61] at H
                                              have c61b0 : decide (0 ≤ x13_4) = true := decide_eq_true c61
                                              clear c61
                                              by_cases c62 : x13_4 < (y357.length : Int)
                                              · rw [if_pos c62] at H
                                                have c62b0 : decide (x13_4 < (y357.length : Int)) = true := decide_eq_true c62
                                                clear c62
                                                by_cases c63 : t378.toList = (rdOf ByteArray.empty y357 x13_4).toList
                                                · rw [if_pos c63] at H
                                                  have c63b0 : (t378.toList == (rdOf ByteArray.empty y357 x13_4).toList) = true := beq_iff_eq.mpr c63
                                                  have c63b1 : (t378.toList != (rdOf ByteArray.empty y357 x13_4).toList) = false := bne_eq_false_iff_eq.mpr c63
                                                  clear c63
                                                  have H' := Aside0.mk H
                                                  clear H
                                                  obtain ⟨Ao64, co64, eo64⟩ := Kd.V_slice HO_11.out
                                                  subst eo64
                                                  go_wp2_with (first | (go_at_call 15; (with_reducible refine (net_Take.calls (fun k_ => some k_ ≠ (.slice Ao50 y357.length co50 : Value).ownBlock) _ _ x11_4 0 t378 t379 t382 _ ?side1 A59.out).mono ?_); (case side1 => exact HO_11.out); rintro e w65 ⟨v380, rfl, ho0, hb⟩; have n0_ := Aside0.mk (Kd.R_below (by (with_reducible repeat (first | apply Kd.R_alloc | apply Kd.R_drewN | apply Kd.R_drew)); exact HO_8.out) hb); have n1_ := Aside0.mk (Kd.V_below (by (with_reducible repeat (first | apply Kd.V_alloc | apply Kd.V_drewN | apply Kd.V_drew)); exact HO_11.out) hb); have n2_ := Aside0.mk (Kd.V_below (by (with_reducible repeat (first | apply Kd.V_alloc | apply Kd.V_drewN | apply Kd.V_drew)); exact HO_15.out) hb); have n3_ := Aside0.mk (Kd.V_lower (Kd.V_mono (ok' := fun k_ => some k_ ≠ (.slice Ao50 y357.length co50 : Value).ownBlock) ho0 (fun k_ hk_ => Or.elim hk_ (fun hs_ => hs_) (fun hn_ => (Kd.fresh' (Kd.R_lt (by (with_reducible repeat (first | apply Kd.R_alloc | apply Kd.R_drewN | apply Kd.R_drew)); exact HO_8.out)) k_ hn_)))) (below_size (by repeat (first | (with_reducible first | exact HB.out | apply below_alloc | apply pw_below_drewN | apply below_drew1) | exact HB.out)))); have n4_ := Aside0.mk (below_step (by repeat (first | (with_reducible first | exact HB.out | apply below_alloc | apply pw_below_drewN | apply below_drew1) | exact HB.out)) hb); clear HO_8; clear HO_11; clear HO_15; clear HB; have HO_8 := n0_; have HO_11 := n1_; have HO_15 := n2_; have HO381 := n3_; have HB := n4_; clear n0_ n1_ n2_ n3_ n4_; (try clear hb); (try clear hb2); (try clear hk); (try clear hi); (try clear ho0); have p383 : 0 ≤ (x13_4 : Int) := of_decide_eq_true (by first | (with_reducible assumption) | assumption); have q383 : x13_4 < (y357.length : Int) := of_decide_eq_true (by first | (with_reducible assumption) | assumption); obtain ⟨ad383, e383, hx383_0⟩ := Kd.at_string (Kd.R_reads' HO_8.out).2.2 x13_4 p383 q383; cases e383; replace p383 := eq_true p383; replace q383 := eq_true q383))
                                                  repeat (go_quiet (first | (go_at_call 15; (with_reducible refine (net_Take.calls (fun k_ => some k_ ≠ (.slice Ao50 y357.length co50 : Value).ownBlock) _ _ x11_4 0 t378 t379 t382 _ ?side1 A59.out).mono ?_); (case side1 => exact HO_11.out); rintro e w65 ⟨v380, rfl, ho0, hb⟩; have n0_ := Aside0.mk (Kd.R_below (by (with_reducible repeat (first | apply Kd.R_alloc | apply Kd.R_drewN | apply Kd.R_drew)); exact HO_8.out) hb); have n1_ := Aside0.mk (Kd.V_below (by (with_reducible repeat (first | apply Kd.V_alloc | apply Kd.V_drewN | apply Kd.V_drew)); exact HO_11.out) hb); have n2_ := Aside0.mk (Kd.V_below (by (with_reducible repeat (first | apply Kd.V_alloc | apply Kd.V_drewN | apply Kd.V_drew)); exact HO_15.out) hb); have n3_ := Aside0.mk (Kd.V_lower (Kd.V_mono (ok' := fun k_ => some k_ ≠ (.slice Ao50 y357.length co50 : Value).ownBlock) ho0 (fun k_ hk_ => Or.elim hk_ (fun hs_ => hs_) (fun hn_ => (Kd.fresh' (Kd.R_lt (by (with_reducible repeat (first | apply Kd.R_alloc | apply Kd.R_drewN | apply Kd.R_drew)); exact HO_8.out)) k_ hn_)))) (below_size (by repeat (first | (with_reducible first | exact HB.out | apply below_alloc | apply pw_below_drewN | apply below_drew1) | exact HB.out)))); have n4_ := Aside0.mk (below_step (by repeat (first | (with_reducible first | exact HB.out | apply below_alloc | apply pw_below_drewN | apply below_drew1) | exact HB.out)) hb); clear HO_8; clear HO_11; clear HO_15; clear HB; have HO_8 := n0_; have HO_11 := n1_; have HO_15 := n2_; have HO381 := n3_; have HB := n4_; clear n0_ n1_ n2_ n3_ n4_; (try clear hb); (try clear hb2); (try clear hk); (try clear hi); (try clear ho0); have p383 : 0 ≤ (x13_4 : Int) := of_decide_eq_true (by first | (with_reducible assumption) | assumption); have q383 : x13_4 < (y357.length : Int) := of_decide_eq_true (by first | (with_reducible assumption) | assumption); obtain ⟨ad383, e383, hx383_0⟩ := Kd.at_string (Kd.R_reads' HO_8.out).2.2 x13_4 p383 q383; cases e383; replace p383 := eq_true p383; replace q383 := eq_true q383)); try go_wp2_with (first | (go_at_call 15; (with_reducible refine (net_Take.calls (fun k_ => some k_ ≠ (.slice Ao50 y357.length co50 : Value).ownBlock) _ _ x11_4 0 t378 t379 t382 _ ?side1 A59.out).mono ?_); (case side1 => exact HO_11.out); rintro e w65 ⟨v380, rfl, ho0, hb⟩; have n0_ := Aside0.mk (Kd.R_below (by (with_reducible repeat (first | apply Kd.R_alloc | apply Kd.R_drewN | apply Kd.R_drew)); exact HO_8.out) hb); have n1_ := Aside0.mk (Kd.V_below (by (with_reducible repeat (first | apply Kd.V_alloc | apply Kd.V_drewN | apply Kd.V_drew)); exact HO_11.out) hb); have n2_ := Aside0.mk (Kd.V_below (by (with_reducible repeat (first | apply Kd.V_alloc | apply Kd.V_drewN | apply Kd.V_drew)); exact HO_15.out) hb); have n3_ := Aside0.mk (Kd.V_lower (Kd.V_mono (ok' := fun k_ => some k_ ≠ (.slice Ao50 y357.length co50 : Value).ownBlock) ho0 (fun k_ hk_ => Or.elim hk_ (fun hs_ => hs_) (fun hn_ => (Kd.fresh' (Kd.R_lt (by (with_reducible repeat (first | apply Kd.R_alloc | apply Kd.R_drewN | apply Kd.R_drew)); exact HO_8.out)) k_ hn_)))) (below_size (by repeat (first | (with_reducible first | exact HB.out | apply below_alloc | apply pw_below_drewN | apply below_drew1) | exact HB.out)))); have n4_ := Aside0.mk (below_step (by repeat (first | (with_reducible first | exact HB.out | apply below_alloc | apply pw_below_drewN | apply below_drew1) | exact HB.out)) hb); clear HO_8; clear HO_11; clear HO_15; clear HB; have HO_8 := n0_; have HO_11 := n1_; have HO_15 := n2_; have HO381 := n3_; have HB := n4_; clear n0_ n1_ n2_ n3_ n4_; (try clear hb); (try clear hb2); (try clear hk); (try clear hi); (try clear ho0); have p383 : 0 ≤ (x13_4 : Int) := of_decide_eq_true (by first | (with_reducible assumption) | assumption); have q383 : x13_4 < (y357.length : Int) := of_decide_eq_true (by first | (with_reducible assumption) | assumption); obtain ⟨ad383, e383, hx383_0⟩ := Kd.at_string (Kd.R_reads' HO_8.out).2.2 x13_4 p383 q383; cases e383; replace p383 := eq_true p383; replace q383 := eq_true q383)))
                                                  go_roundg kj55
                                                  case measure => have := HJ3.out; have := HJ15.out; have := HJ30.out; have := HK4.out; have := HJ48.out; have := HJ55.out; omega
                                                  case rel => exact ⟨(t373), (t379), (wrap64 (x13_4 + 1)), (by first | rfl | (simp; done) | (simp [*]; done)), H', ⟨by have := HJ3.out; have := HJ15.out; have := HJ30.out; have := HK4.out; have := HJ48.out; have := HJ55.out; omega⟩, ⟨by (with_reducible repeat (first | apply Kd.V_alloc | apply Kd.V_drewN | apply Kd.V_drew)); exact HO_15.out⟩, ⟨by (with_reducible repeat (first | apply Kd.R_alloc | apply Kd.R_drewN | apply Kd.R_drew)); exact HO_8.out⟩, ⟨by (with_reducible repeat (first | apply Kd.V_alloc | apply Kd.V_drewN | apply Kd.V_drew)); exact HO381.out⟩, ⟨by repeat (first | (with_reducible first | exact HB.out | apply below_alloc | apply pw_below_drewN | apply below_drew1) | exact HB.out)⟩⟩
                                                · rw [if_neg c63] at H
                                                  have c63b0 : (t378.toList == (rdOf ByteArray.empty y357 x13_4).toList) = false := beq_eq_false_iff_ne.mpr c63
                                                  have c63b1 : (t378.toList != (rdOf ByteArray.empty y357 x13_4).toList) = true := bne_iff_ne.mpr c63
                                                  exact absurd ((Option.some.inj H).trans HT.out) (by simp)
                                              · rw [if_neg c62] at H
                                                exact absurd H (by simp)
                                            · rw [if_neg c61] at H
                                              exact absurd H (by simp)
                                          · rw [if_neg c60] at H
                                            have c60b0 : (t382 == 0) = false := beq_eq_false_iff_ne.mpr c60
                                            have c60b1 : (t382 != 0) = true := bne_iff_ne.mpr c60
                                            exact absurd ((Option.some.inj H).trans HT.out) (by simp)
                                        · replace c58 := Bool.eq_false_iff.mpr c58
                                          subst c58
                                          have H1 : (rollcalllaw22_NetTakes.l0 kj55 a2 t373 y357 t363 x11_4 (wrap64 (x13_4 + 1))) = some r := by rw [if_neg (show ¬ (false = true) by decide)] at H; exact H
                                          clear H
                                          have H := H1
                                          clear H1
                                          have H' := Aside0.mk H
                                          clear H
                                          go_wp2
                                          repeat (go_quiet (fail); try go_wp2)
                                          go_roundg kj55
                                          case measure => have := HJ3.out; have := HJ15.out; have := HJ30.out; have := HK4.out; have := HJ48.out; have := HJ55.out; omega
                                          case rel => exact ⟨(t373), (x11_4), (wrap64 (x13_4 + 1)), (by first | rfl | (simp; done) | (simp [*]; done)), H', ⟨by have := HJ3.out; have := HJ15.out; have := HJ30.out; have := HK4.out; have := HJ48.out; have := HJ55.out; omega⟩, ⟨by (with_reducible repeat (first | apply Kd.V_alloc | apply Kd.V_drewN | apply Kd.V_drew)); exact HO_15.out⟩, ⟨by (with_reducible repeat (first | apply Kd.R_alloc | apply Kd.R_drewN | apply Kd.R_drew)); exact HO_8.out⟩, ⟨by (with_reducible repeat (first | apply Kd.V_alloc | apply Kd.V_drewN | apply Kd.V_drew)); exact HO_11.out⟩, ⟨by repeat (first | (with_reducible first | exact HB.out | apply below_alloc | apply pw_below_drewN | apply below_drew1) | exact HB.out)⟩⟩
                            · rw [if_neg c47] at H
                              have c47b0 : decide (x13_4 < (y357.length : Int)) = false := decide_eq_false c47
                              clear c47
                              by_cases c66 : (x7_4.length : Int) = 0
                              · rw [if_pos c66] at H
                                have c66b0 : ((x7_4.length : Int) == 0) = true := beq_iff_eq.mpr c66
                                have c66b1 : ((x7_4.length : Int) != 0) = false := bne_eq_false_iff_eq.mpr c66
                                clear c66
                                by_cases c67 : t363 = 0
                                · rw [if_pos c67] at H
                                  have c67b0 : (t363 == 0) = true := beq_iff_eq.mpr c67
                                  have c67b1 : (t363 != 0) = false := bne_eq_false_iff_eq.mpr c67
                                  clear c67
                                  by_cases c68 : (x11_4.length : Int) = 0
                                  · rw [if_pos c68] at H
                                    have c68b0 : ((x11_4.length : Int) == 0) = true := beq_iff_eq.mpr c68
                                    have c68b1 : ((x11_4.length : Int) != 0) = false := bne_eq_false_iff_eq.mpr c68
                                    clear c68
                                    replace H := Option.bind_eq_some_iff.mp H
                                    obtain ⟨t370, A690, H⟩ := H
                                    replace H : (some t370) = some r := H
                                    have A69 := Aside0.mk A690
                                    clear A690
                                    obtain rfl := Option.some.inj H
                                    obtain ⟨Ao70, co70, eo70⟩ := Kd.R_slice HO_8.out
                                    subst eo70
                                    obtain ⟨Ao71, co71, eo71⟩ := Kd.V_slice HO_7.out
                                    subst eo71
                                    obtain ⟨Ao72, co72, eo72⟩ := Kd.V_slice HO_11.out
                                    subst eo72
                                    go_wp2_with (first | (go_at_call 9; (with_reducible refine (rollcalllaw22_live.calls k4  t370 _ A69.out).mono ?_); rintro e w73 ⟨rfl, hb⟩; have n0_ := Aside0.mk (Kd.V_below (by (with_reducible repeat (first | apply Kd.V_alloc | apply Kd.V_drewN | apply Kd.V_drew)); exact HO_7.out) hb); have n1_ := Aside0.mk (Kd.R_below (by (with_reducible repeat (first | apply Kd.R_alloc | apply Kd.R_drewN | apply Kd.R_drew)); exact HO_8.out) hb); have n2_ := Aside0.mk (Kd.V_below (by (with_reducible repeat (first | apply Kd.V_alloc | apply Kd.V_drewN | apply Kd.V_drew)); exact HO_11.out) hb); have n3_ := Aside0.mk (below_step (by repeat (first | (with_reducible first | exact HB.out | apply below_alloc | apply pw_below_drewN | apply below_drew1) | exact HB.out)) hb); clear HO_7; clear HO_8; clear HO_11; clear HB; have HO_7 := n0_; have HO_8 := n1_; have HO_11 := n2_; have HB := n3_; clear n0_ n1_ n2_ n3_; (try clear hb); (try clear hb2); (try clear hk); (try clear hi)))
                                    repeat (go_quiet (first | (go_at_call 9; (with_reducible refine (rollcalllaw22_live.calls k4  t370 _ A69.out).mono ?_); rintro e w73 ⟨rfl, hb⟩; have n0_ := Aside0.mk (Kd.V_below (by (with_reducible repeat (first | apply Kd.V_alloc | apply Kd.V_drewN | apply Kd.V_drew)); exact HO_7.out) hb); have n1_ := Aside0.mk (Kd.R_below (by (with_reducible repeat (first | apply Kd.R_alloc | apply Kd.R_drewN | apply Kd.R_drew)); exact HO_8.out) hb); have n2_ := Aside0.mk (Kd.V_below (by (with_reducible repeat (first | apply Kd.V_alloc | apply Kd.V_drewN | apply Kd.V_drew)); exact HO_11.out) hb); have n3_ := Aside0.mk (below_step (by repeat (first | (with_reducible first | exact HB.out | apply below_alloc | apply pw_below_drewN | apply below_drew1) | exact HB.out)) hb); clear HO_7; clear HO_8; clear HO_11; clear HB; have HO_7 := n0_; have HO_8 := n1_; have HO_11 := n2_; have HB := n3_; clear n0_ n1_ n2_ n3_; (try clear hb); (try clear hb2); (try clear hk); (try clear hi))); try go_wp2_with (first | (go_at_call 9; (with_reducible refine (rollcalllaw22_live.calls k4  t370 _ A69.out).mono ?_); rintro e w73 ⟨rfl, hb⟩; have n0_ := Aside0.mk (Kd.V_below (by (with_reducible repeat (first | apply Kd.V_alloc | apply Kd.V_drewN | apply Kd.V_drew)); exact HO_7.out) hb); have n1_ := Aside0.mk (Kd.R_below (by (with_reducible repeat (first | apply Kd.R_alloc | apply Kd.R_drewN | apply Kd.R_drew)); exact HO_8.out) hb); have n2_ := Aside0.mk (Kd.V_below (by (with_reducible repeat (first | apply Kd.V_alloc | apply Kd.V_drewN | apply Kd.V_drew)); exact HO_11.out) hb); have n3_ := Aside0.mk (below_step (by repeat (first | (with_reducible first | exact HB.out | apply below_alloc | apply pw_below_drewN | apply below_drew1) | exact HB.out)) hb); clear HO_7; clear HO_8; clear HO_11; clear HB; have HO_7 := n0_; have HO_8 := n1_; have HO_11 := n2_; have HB := n3_; clear n0_ n1_ n2_ n3_; (try clear hb); (try clear hb2); (try clear hk); (try clear hi))))
                                    go_ret
                                    exact ⟨by first | rfl | (simp [errW_none, errW_some] <;> rfl) | (simp [*, errW_none, errW_some] <;> rfl), by repeat (first | (with_reducible first | exact HB.out | apply below_alloc | apply pw_below_drewN | apply below_drew1) | exact HB.out)⟩
                                  · rw [if_neg c68] at H
                                    have c68b0 : ((x11_4.length : Int) == 0) = false := beq_eq_false_iff_ne.mpr c68
                                    have c68b1 : ((x11_4.length : Int) != 0) = true := bne_iff_ne.mpr c68
                                    have c68b2 : ¬ (x11_4 = []) := fun h_ => c68 (by rw [h_]; rfl)
                                    exact absurd ((Option.some.inj H).trans HT.out) (by simp)
                                · rw [if_neg c67] at H
                                  have c67b0 : (t363 == 0) = false := beq_eq_false_iff_ne.mpr c67
                                  have c67b1 : (t363 != 0) = true := bne_iff_ne.mpr c67
                                  replace H := Option.bind_eq_some_iff.mp H
                                  obtain ⟨t371, A740, H⟩ := H
                                  replace H : (some t371) = some r := H
                                  have A74 := Aside0.mk A740
                                  clear A740
                                  obtain rfl := Option.some.inj H
                                  obtain ⟨Ao75, co75, eo75⟩ := Kd.R_slice HO_8.out
                                  subst eo75
                                  obtain ⟨Ao76, co76, eo76⟩ := Kd.V_slice HO_7.out
                                  subst eo76
                                  go_wp2_with (first | (go_at_call 9; (with_reducible refine (rollcalllaw22_live.calls k4  t371 _ A74.out).mono ?_); rintro e w77 ⟨rfl, hb⟩; have n0_ := Aside0.mk (Kd.V_below (by (with_reducible repeat (first | apply Kd.V_alloc | apply Kd.V_drewN | apply Kd.V_drew)); exact HO_7.out) hb); have n1_ := Aside0.mk (Kd.R_below (by (with_reducible repeat (first | apply Kd.R_alloc | apply Kd.R_drewN | apply Kd.R_drew)); exact HO_8.out) hb); have n2_ := Aside0.mk (Kd.V_below (by (with_reducible repeat (first | apply Kd.V_alloc | apply Kd.V_drewN | apply Kd.V_drew)); exact HO_11.out) hb); have n3_ := Aside0.mk (below_step (by repeat (first | (with_reducible first | exact HB.out | apply below_alloc | apply pw_below_drewN | apply below_drew1) | exact HB.out)) hb); clear HO_7; clear HO_8; clear HO_11; clear HB; have HO_7 := n0_; have HO_8 := n1_; have HO_11 := n2_; have HB := n3_; clear n0_ n1_ n2_ n3_; (try clear hb); (try clear hb2); (try clear hk); (try clear hi)))
                                  repeat (go_quiet (first | (go_at_call 9; (with_reducible refine (rollcalllaw22_live.calls k4  t371 _ A74.out).mono ?_); rintro e w77 ⟨rfl, hb⟩; have n0_ := Aside0.mk (Kd.V_below (by (with_reducible repeat (first | apply Kd.V_alloc | apply Kd.V_drewN | apply Kd.V_drew)); exact HO_7.out) hb); have n1_ := Aside0.mk (Kd.R_below (by (with_reducible repeat (first | apply Kd.R_alloc | apply Kd.R_drewN | apply Kd.R_drew)); exact HO_8.out) hb); have n2_ := Aside0.mk (Kd.V_below (by (with_reducible repeat (first | apply Kd.V_alloc | apply Kd.V_drewN | apply Kd.V_drew)); exact HO_11.out) hb); have n3_ := Aside0.mk (below_step (by repeat (first | (with_reducible first | exact HB.out | apply below_alloc | apply pw_below_drewN | apply below_drew1) | exact HB.out)) hb); clear HO_7; clear HO_8; clear HO_11; clear HB; have HO_7 := n0_; have HO_8 := n1_; have HO_11 := n2_; have HB := n3_; clear n0_ n1_ n2_ n3_; (try clear hb); (try clear hb2); (try clear hk); (try clear hi))); try go_wp2_with (first | (go_at_call 9; (with_reducible refine (rollcalllaw22_live.calls k4  t371 _ A74.out).mono ?_); rintro e w77 ⟨rfl, hb⟩; have n0_ := Aside0.mk (Kd.V_below (by (with_reducible repeat (first | apply Kd.V_alloc | apply Kd.V_drewN | apply Kd.V_drew)); exact HO_7.out) hb); have n1_ := Aside0.mk (Kd.R_below (by (with_reducible repeat (first | apply Kd.R_alloc | apply Kd.R_drewN | apply Kd.R_drew)); exact HO_8.out) hb); have n2_ := Aside0.mk (Kd.V_below (by (with_reducible repeat (first | apply Kd.V_alloc | apply Kd.V_drewN | apply Kd.V_drew)); exact HO_11.out) hb); have n3_ := Aside0.mk (below_step (by repeat (first | (with_reducible first | exact HB.out | apply below_alloc | apply pw_below_drewN | apply below_drew1) | exact HB.out)) hb); clear HO_7; clear HO_8; clear HO_11; clear HB; have HO_7 := n0_; have HO_8 := n1_; have HO_11 := n2_; have HB := n3_; clear n0_ n1_ n2_ n3_; (try clear hb); (try clear hb2); (try clear hk); (try clear hi))))
                                  go_ret
                                  exact ⟨by first | rfl | (simp [errW_none, errW_some] <;> rfl) | (simp [*, errW_none, errW_some] <;> rfl), by repeat (first | (with_reducible first | exact HB.out | apply below_alloc | apply pw_below_drewN | apply below_drew1) | exact HB.out)⟩
                              · rw [if_neg c66] at H
                                have c66b0 : ((x7_4.length : Int) == 0) = false := beq_eq_false_iff_ne.mpr c66
                                have c66b1 : ((x7_4.length : Int) != 0) = true := bne_iff_ne.mpr c66
                                have c66b2 : ¬ (x7_4 = []) := fun h_ => c66 (by rw [h_]; rfl)
                                exact absurd ((Option.some.inj H).trans HT.out) (by simp)
          · rw [if_neg c13] at H
            exact absurd H (by simp)
        · rw [if_neg c12] at H
          exact absurd H (by simp)

/-- THE PURE STATEMENT of rollcalllaw22_NetTakes. -/
def rollcalllaw22_NetTakes.Pure : Prop := ∀ (l0 : List ByteArray) (l1 : List ByteArray) (a2 : Int), l0.length ≤ maxLen → (∀ x_ ∈ l0, x_.size ≤ maxLen) → l1.length ≤ maxLen → (∀ x_ ∈ l1, x_.size ≤ maxLen) → (Lit.int .i64 a2).wf = true → ∃ k, rollcalllaw22_NetTakes.f k l0 l1 a2 = some true
theorem rollcalllaw22_NetTakes.walkx (P : rollcalllaw22_NetTakes.Pure) (A0 : Option Addr) (c0 : Nat) (l0 : List ByteArray) (A1 : Option Addr) (c1 : Nat) (l1 : List ByteArray) (a2 : Int) (w : World) (hr0 : Kd.C Kd.string w A0 l0.length l0) (hc0 : l0.length ≤ c0) (hr1 : Kd.C Kd.string w A1 l1.length l1) (hc1 : l1.length ≤ c1) (q0 : l0.length ≤ maxLen) (q1 : (∀ x_ ∈ l0, x_.size ≤ maxLen)) (q2 : l1.length ≤ maxLen) (q3 : (∀ x_ ∈ l1, x_.size ≤ maxLen)) (q4 : (Lit.int .i64 a2).wf = true) :
    Calls Try.prog 6 #[.slice A0 l0.length c0, .slice A1 l1.length c1, .int .i64 a2] w fun e w' => e = .returned (.bool true) ∧ Below w.heap.size w w' := by
  obtain ⟨k, h⟩ := P l0 l1 a2 q0 q1 q2 q3 q4
  refine (rollcalllaw22_NetTakes.calls k A0 c0 l0 A1 c1 l1 a2 true rfl w hr0 hc0 hr1 hc1 h).mono ?_
  rintro e w' ⟨rfl, hd⟩
  exact ⟨rfl, hd⟩

end Go.Proofs.Ytgnjbiofjjcioaa.PA
