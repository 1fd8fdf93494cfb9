-- Written by a program of this session (wip/tools/xprint.py), which drives the kit's print.
import Derived.Test.YthcmelchgnekpaaPAx0
import Derived.Test.YthcmelchgnekpaaPAx1
namespace Go.Proofs.Ythcmelchgnekpaa.PA
open Go.RowKit Go.Proofs.YthcmelchgnekpaaW.PrintWords Go.Proofs.YthcmelchgnekpaaW.PrintLast Go.Proofs.YthcmelchgnekpaaW.PrintMore
attribute [local go_sem] max2_int min2_int max_two min_two max_three min_three max_four min_four   -- for this text's walks alone
set_option linter.unusedVariables false
set_option linter.unusedSimpArgs false

attribute [local go_sem high] eqA31
/-! ### rollcallref17_Changes: function 25 -/
def rollcallref17_Changes.l0 : Nat → List (S33) → Int → Option (Bool)
  | 0, _, _ => none
  | k + 1, x0, x5 => if x5 < (x0.length : Int) then (if 0 ≤ x5 then (if (((rd_T33 x0 x5).f0).size : Int) > 60 then (some false) else (if (((rd_T33 x0 x5).f2.f3).size : Int) > 100 then (some false) else (rollcallref17_Changes.l0 k x0 (wrap64 (x5 + 1))))) else (none)) else (some true)
def rollcallref17_Changes.f (k : Nat) (l0 : List (S33)) (a1 : Int) : Option (Bool) := if (l0.length : Int) > a1 then (some false) else (rollcallref17_Changes.l0 k l0 0)
theorem rollcallref17_Changes.mono_l : ∀ k, (∀ y0 y1, LeO (rollcallref17_Changes.l0 k y0 y1) (rollcallref17_Changes.l0 (k + 1) y0 y1))
  | 0 => fun _ _ r h => by simp [rollcallref17_Changes.l0] at h
  | k + 1 => by
    have ih0 := rollcallref17_Changes.mono_l k
    · intro y0 y1
      unfold rollcallref17_Changes.l0
      repeat' first
      | (with_reducible exact ih0 _ _)
      | (with_reducible exact LeO.refl _)
      | (with_reducible exact LeO.none _)
      | (with_reducible refine LeO.ite ?_ ?_)
      | (with_reducible refine LeO.bind ?_ (fun _ => ?_))
      | exact ih0 _ _
      | exact LeO.none _
      | refine LeO.ite ?_ ?_
      | refine LeO.bind ?_ (fun _ => ?_)
theorem rollcallref17_Changes.mono : ∀ a0 a1 k, LeO (rollcallref17_Changes.f k a0 a1) (rollcallref17_Changes.f (k + 1) a0 a1) := by
  intro a0 a1 k
  have ih0 := rollcallref17_Changes.mono_l k
  unfold rollcallref17_Changes.f
  repeat' first
      | (with_reducible exact ih0 _ _)
      | (with_reducible exact LeO.refl _)
      | (with_reducible exact LeO.none _)
      | (with_reducible refine LeO.ite ?_ ?_)
      | (with_reducible refine LeO.bind ?_ (fun _ => ?_))
      | exact ih0 _ _
      | exact LeO.none _
      | refine LeO.ite ?_ ?_
      | refine LeO.bind ?_ (fun _ => ?_)
set_option maxHeartbeats 8000000 in
set_option maxRecDepth 100000 in
theorem rollcallref17_Changes.calls (k : Nat) (A0 : Option Addr) (c0 : Nat) (l0 : List (S33)) (a1 : Int) (r : Bool) (w : World) (hr0 : Kd.C k33 w A0 l0.length l0) (hc0 : l0.length ≤ c0) (h : rollcallref17_Changes.f k l0 a1 = some r) :
    Calls Try.prog 25 #[.slice A0 l0.length c0, .int .i64 a1] w fun e w' => e = .returned (.bool r) ∧ Drawn0 w w' := by
  have HR0 := Aside0.mk hr0
  have HC0 := Aside0.mk hc0
  clear hr0 hc0
  have H : (if (l0.length : Int) > a1 then (some false) else (rollcallref17_Changes.l0 k l0 0)) = some r := h
  clear h
  by_cases c3 : (l0.length : Int) > a1
  · rw [if_pos c3] at H
    have c3b0 : decide (a1 < (l0.length : Int)) = true := decide_eq_true c3
    clear c3
    obtain rfl := Option.some.inj H
    go_enter Try.func25, Try.ntmps25
    go_wp2
    go_ret
    exact ⟨by first | rfl | (simp; done) | (simp [*]; done), by repeat (first | exact Drawn0.refl _ | apply Drawn0.step)⟩
  · rw [if_neg c3] at H
    have c3b0 : decide (a1 < (l0.length : Int)) = false := decide_eq_false c3
    clear c3
    have H' := Aside0.mk H
    clear H
    go_enter Try.func25, Try.ntmps25
    go_wp2
    go_loopg [5] k (fun kq v5 w' => ∃ (x5_1 : Int), v5 = .int .i64 x5_1 ∧ Aside0 (rollcallref17_Changes.l0 kq l0 x5_1 = some r) ∧ Aside0 (kq ≤ k) ∧ Drawn0 w w')
    case atStart => exact ⟨(0), (by first | rfl | (simp; done) | (simp [*]; done)), H', ⟨Nat.le_refl _⟩, by repeat (first | exact Drawn0.refl _ | apply Drawn0.step)⟩
    case round =>
      clear H'
      try clear c2
      try clear p2
      try clear c3
      try clear c3b0
      obtain ⟨x5_1, rfl, HA, HK1, ⟨m1, rfl⟩⟩ := hrel
      cases gk with
      | zero => exact absurd HA.out (by simp [rollcallref17_Changes.l0])
      | succ k1 =>
        have H := HA.out
        clear HA
        simp only [rollcallref17_Changes.l0] at H
        by_cases c4 : x5_1 < (l0.length : Int)
        · rw [if_pos c4] at H
          have c4b0 : decide (x5_1 < (l0.length : Int)) = true := decide_eq_true c4
          clear c4
          by_cases c5 : 0 ≤ x5_1
          · rw [if_pos c5] at H
            have c5b0 : decide (0 ≤ x5_1) = true := decide_eq_true c5
            clear c5
            by_cases c6 : (((rd_T33 l0 x5_1).f0).size : Int) > 60
            · rw [if_pos c6] at H
              have c6b0 : decide (60 < (((rd_T33 l0 x5_1).f0).size : Int)) = true := decide_eq_true c6
              have c6b1 : decide (60 < ((rd_T33 l0 x5_1).f0).size) = true := decide_eq_true (by omega)
              clear c6
              obtain rfl := Option.some.inj H
              have p101 : 0 ≤ (x5_1 : Int) := of_decide_eq_true (by first | (with_reducible assumption) | assumption)
              have q101 : x5_1 < (l0.length : Int) := of_decide_eq_true (by first | (with_reducible assumption) | assumption)
              obtain ⟨ad101, e101, hx101_0, hx101_1, hx101_2, hx101_3, hx101_4, hx101_5⟩ := at_T33 HR0.out x5_1 p101 q101
              cases e101
              replace p101 := eq_true p101
              replace q101 := eq_true q101
              go_wp2
              go_ret
              exact ⟨by first | rfl | (simp; done) | (simp [*]; done), by repeat (first | exact Drawn0.refl _ | apply Drawn0.step)⟩
            · rw [if_neg c6] at H
              have c6b0 : decide (60 < (((rd_T33 l0 x5_1).f0).size : Int)) = false := decide_eq_false c6
              have c6b1 : decide (60 < ((rd_T33 l0 x5_1).f0).size) = false := decide_eq_false (by omega)
              clear c6
              by_cases c7 : (((rd_T33 l0 x5_1).f2.f3).size : Int) > 100
              · rw [if_pos c7] at H
                have c7b0 : decide (100 < (((rd_T33 l0 x5_1).f2.f3).size : Int)) = true := decide_eq_true c7
                have c7b1 : decide (100 < ((rd_T33 l0 x5_1).f2.f3).size) = true := decide_eq_true (by omega)
                clear c7
                obtain rfl := Option.some.inj H
                have p101 : 0 ≤ (x5_1 : Int) := of_decide_eq_true (by first | (with_reducible assumption) | assumption)
                have q101 : x5_1 < (l0.length : Int) := of_decide_eq_true (by first | (with_reducible assumption) | assumption)
                obtain ⟨ad101, e101, hx101_0, hx101_1, hx101_2, hx101_3, hx101_4, hx101_5⟩ := at_T33 HR0.out x5_1 p101 q101
                cases e101
                replace p101 := eq_true p101
                replace q101 := eq_true q101
                have p102 : 0 ≤ (x5_1 : Int) := of_decide_eq_true (by first | (with_reducible assumption) | assumption)
                have q102 : x5_1 < (l0.length : Int) := of_decide_eq_true (by first | (with_reducible assumption) | assumption)
                obtain ⟨ad102, e102, hx102_0, hx102_1, hx102_2, hx102_3, hx102_4, hx102_5⟩ := at_T33 HR0.out x5_1 p102 q102
                obtain rfl : ad101 = ad102 := (by injection e102)
                replace p102 := eq_true p102
                replace q102 := eq_true q102
                go_wp2
                go_ret
                exact ⟨by first | rfl | (simp; done) | (simp [*]; done), by repeat (first | exact Drawn0.refl _ | apply Drawn0.step)⟩
              · rw [if_neg c7] at H
                have c7b0 : decide (100 < (((rd_T33 l0 x5_1).f2.f3).size : Int)) = false := decide_eq_false c7
                have c7b1 : decide (100 < ((rd_T33 l0 x5_1).f2.f3).size) = false := decide_eq_false (by omega)
                clear c7
                have H' := Aside0.mk H
                clear H
                have p101 : 0 ≤ (x5_1 : Int) := of_decide_eq_true (by first | (with_reducible assumption) | assumption)
                have q101 : x5_1 < (l0.length : Int) := of_decide_eq_true (by first | (with_reducible assumption) | assumption)
                obtain ⟨ad101, e101, hx101_0, hx101_1, hx101_2, hx101_3, hx101_4, hx101_5⟩ := at_T33 HR0.out x5_1 p101 q101
                cases e101
                replace p101 := eq_true p101
                replace q101 := eq_true q101
                have p102 : 0 ≤ (x5_1 : Int) := of_decide_eq_true (by first | (with_reducible assumption) | assumption)
                have q102 : x5_1 < (l0.length : Int) := of_decide_eq_true (by first | (with_reducible assumption) | assumption)
                obtain ⟨ad102, e102, hx102_0, hx102_1, hx102_2, hx102_3, hx102_4, hx102_5⟩ := at_T33 HR0.out x5_1 p102 q102
                obtain rfl : ad101 = ad102 := (by injection e102)
                replace p102 := eq_true p102
                replace q102 := eq_true q102
                go_wp2
                go_roundg k1
                case measure => have := HK1.out; omega
                case rel => exact ⟨(wrap64 (x5_1 + 1)), (by first | rfl | (simp; done) | (simp [*]; done)), H', ⟨by have := HK1.out; omega⟩, by repeat (first | exact Drawn0.refl _ | apply Drawn0.step)⟩
          · rw [if_neg c5] at H
            exact absurd H (by simp)
        · rw [if_neg c4] at H
          have c4b0 : decide (x5_1 < (l0.length : Int)) = false := decide_eq_false c4
          clear c4
          obtain rfl := Option.some.inj H
          go_wp2
          go_ret
          exact ⟨by first | rfl | (simp; done) | (simp [*]; done), by repeat (first | exact Drawn0.refl _ | apply Drawn0.step)⟩

/-! ### rollcallref17_Few: function 8 -/
def rollcallref17_Few.f (k : Nat) (l0_0 : List (S33)) (a0_1 : Bool) : Option (Bool) := (rollcallref17_Changes.f k l0_0 30).bind fun t104 => (some t104)
theorem rollcallref17_Few.mono : ∀ a0 a1 k, LeO (rollcallref17_Few.f k a0 a1) (rollcallref17_Few.f (k + 1) a0 a1) := by
  intro a0 a1 k
  unfold rollcallref17_Few.f
  repeat' first
      | (with_reducible exact rollcallref17_Changes.mono _ _ _)
      | (with_reducible exact LeO.refl _)
      | (with_reducible exact LeO.none _)
      | (with_reducible refine LeO.ite ?_ ?_)
      | (with_reducible refine LeO.bind ?_ (fun _ => ?_))
      | exact rollcallref17_Changes.mono _ _ _
      | exact LeO.none _
      | refine LeO.ite ?_ ?_
      | refine LeO.bind ?_ (fun _ => ?_)
set_option maxHeartbeats 8000000 in
set_option maxRecDepth 100000 in
theorem rollcallref17_Few.calls (k : Nat) (A0_0 : Option Addr) (c0_0 : Nat) (l0_0 : List (S33)) (a0_1 : Bool) (r : Bool) (w : World) (hr0_0 : Kd.C k33 w A0_0 l0_0.length l0_0) (hc0_0 : l0_0.length ≤ c0_0) (h : rollcallref17_Few.f k l0_0 a0_1 = some r) :
    Calls Try.prog 8 #[.agg #[.slice A0_0 l0_0.length c0_0, .bool a0_1]] w fun e w' => e = .returned (.bool r) ∧ Below w.heap.size w w' := by
  have hu24 := Try.underlying24
  have HR0_0 := Aside0.mk hr0_0
  have HC0_0 := Aside0.mk hc0_0
  clear hr0_0 hc0_0
  have HB := Aside0.mk (Below.refl w.heap.size w)
  have H : ((rollcallref17_Changes.f k l0_0 30).bind fun t104 => (some t104)) = some r := h
  clear h
  replace H := Option.bind_eq_some_iff.mp H
  obtain ⟨t104, A20, H⟩ := H
  replace H : (some t104) = some r := H
  have A2 := Aside0.mk A20
  clear A20
  obtain rfl := Option.some.inj H
  go_enter Try.func8, Try.ntmps8
  go_wp2_with (first | ((with_reducible refine gate_dst (N := 1) rfl ?_); refine box_event ?hg (N := 1) ?hd (cs := #[.slice A0_0 l0_0.length c0_0, .bool a0_1]) (t := 24) ?hr ?_; (case hd => rfl); (case hg => rfl); (case hr => first | (go_simp; done) | (go_simp; rfl)); intro gb103 hg w3 hbox hb; have BK103 := Aside0.mk (hbox); have GW103 := Aside0.mk ((by rw [hg]; exact (below_size (hS HB.out)) : w.heap.size ≤ gb103)); have GE103 := Aside0.mk ((by rw [hg]; exact (below_size (hS HB.out)) : w.heap.size ≤ gb103)); replace HB := Aside0.mk (below_step (hS HB.out) hb); clear hb hbox hg; have hcz4_0 : w3.cell? ⟨gb103, 0, none⟩ = some (.slice A0_0 l0_0.length c0_0) := (blk_cell BK103.out 0).trans rfl; have hcz4_1 : w3.cell? ⟨gb103, 1, none⟩ = some (.bool a0_1) := (blk_cell BK103.out 1).trans rfl; have hfz4_0 := blk_frozen BK103.out 0; have hfz4_1 := blk_frozen BK103.out 1) | ((with_reducible refine gate_callee (f := 25) rfl ?_); refine goesL_ (some 5) rfl rfl Try.func25 (by kernel_rfl) rfl #[.slice A0_0 l0_0.length c0_0, .int .i64 30] rfl (by (try simp only [List.map_toArray, List.map_cons, List.map_nil]); first | done | rfl | (simp only [List.length_drop, List.length_take]; rfl)) ?_; (with_reducible refine (rollcallref17_Changes.calls k _ _ l0_0 30 t104 _ ?side1 ?side2 A2.out).mono ?_); (case side1 => repeat (first | exact (Kd.C_below HR0_0.out HB.out) | (with_reducible refine Kd.C_alloc ?_ _) | (with_reducible refine Kd.C_drewN ?_ _) | (with_reducible refine Kd.C_drew ?_))); (case side2 => exact HC0_0.out); rintro e w' ⟨rfl, ⟨nd, rfl⟩⟩; refine ⟨_, rfl, ?_⟩))
  go_ret
  exact ⟨by first | rfl | (simp [errW_none, errW_some] <;> rfl) | (simp [*, errW_none, errW_some] <;> rfl), by repeat (first | (with_reducible first | exact HB.out | apply below_alloc | apply pw_below_drewN | apply below_drew1 | refine below_set ?_ GE103.out) | exact HB.out)⟩

/-! ### rollcallref05_Few: function 9 -/
def rollcallref05_Few.l0 : Nat → List (S52) → Int → Option (Bool)
  | 0, _, _ => none
  | k + 1, x0, x3 => if x3 < (x0.length : Int) then (if 0 ≤ x3 then (if (((rd_T52 x0 x3).f0).size : Int) > 60 then (some false) else (if (((rd_T52 x0 x3).f1.f3).size : Int) > 100 then (some false) else (rollcallref05_Few.l0 k x0 (wrap64 (x3 + 1))))) else (none)) else (some true)
def rollcallref05_Few.f (k : Nat) (l0 : List (S52)) : Option (Bool) := if (l0.length : Int) > 40 then (some false) else (rollcallref05_Few.l0 k l0 0)
theorem rollcallref05_Few.mono_l : ∀ k, (∀ y0 y1, LeO (rollcallref05_Few.l0 k y0 y1) (rollcallref05_Few.l0 (k + 1) y0 y1))
  | 0 => fun _ _ r h => by simp [rollcallref05_Few.l0] at h
  | k + 1 => by
    have ih0 := rollcallref05_Few.mono_l k
    · intro y0 y1
      unfold rollcallref05_Few.l0
      repeat' first
      | (with_reducible exact ih0 _ _)
      | (with_reducible exact LeO.refl _)
      | (with_reducible exact LeO.none _)
      | (with_reducible refine LeO.ite ?_ ?_)
      | (with_reducible refine LeO.bind ?_ (fun _ => ?_))
      | exact ih0 _ _
      | exact LeO.none _
      | refine LeO.ite ?_ ?_
      | refine LeO.bind ?_ (fun _ => ?_)
theorem rollcallref05_Few.mono : ∀ a0 k, LeO (rollcallref05_Few.f k a0) (rollcallref05_Few.f (k + 1) a0) := by
  intro a0 k
  have ih0 := rollcallref05_Few.mono_l k
  unfold rollcallref05_Few.f
  repeat' first
      | (with_reducible exact ih0 _ _)
      | (with_reducible exact LeO.refl _)
      | (with_reducible exact LeO.none _)
      | (with_reducible refine LeO.ite ?_ ?_)
      | (with_reducible refine LeO.bind ?_ (fun _ => ?_))
      | exact ih0 _ _
      | exact LeO.none _
      | refine LeO.ite ?_ ?_
      | refine LeO.bind ?_ (fun _ => ?_)
set_option maxHeartbeats 8000000 in
set_option maxRecDepth 100000 in
theorem rollcallref05_Few.calls (k : Nat) (A0 : Option Addr) (c0 : Nat) (l0 : List (S52)) (r : Bool) (w : World) (hr0 : Kd.C k52 w A0 l0.length l0) (hc0 : l0.length ≤ c0) (h : rollcallref05_Few.f k l0 = some r) :
    Calls Try.prog 9 #[.slice A0 l0.length c0] w fun e w' => e = .returned (.bool r) ∧ Drawn0 w w' := by
  have HR0 := Aside0.mk hr0
  have HC0 := Aside0.mk hc0
  clear hr0 hc0
  have H : (if (l0.length : Int) > 40 then (some false) else (rollcallref05_Few.l0 k l0 0)) = some r := h
  clear h
  by_cases c2 : (l0.length : Int) > 40
  · rw [if_pos c2] at H
    have c2b0 : decide (40 < (l0.length : Int)) = true := decide_eq_true c2
    have c2b1 : decide (40 < l0.length) = true := decide_eq_true (by omega)
    clear c2
    obtain rfl := Option.some.inj H
    go_enter Try.func9, Try.ntmps9
    go_wp2
    go_ret
    exact ⟨by first | rfl | (simp; done) | (simp [*]; done), by repeat (first | exact Drawn0.refl _ | apply Drawn0.step)⟩
  · rw [if_neg c2] at H
    have c2b0 : decide (40 < (l0.length : Int)) = false := decide_eq_false c2
    have c2b1 : decide (40 < l0.length) = false := decide_eq_false (by omega)
    clear c2
    have H' := Aside0.mk H
    clear H
    go_enter Try.func9, Try.ntmps9
    go_wp2
    go_loopg [3] k (fun kq v3 w' => ∃ (x3_1 : Int), v3 = .int .i64 x3_1 ∧ Aside0 (rollcallref05_Few.l0 kq l0 x3_1 = some r) ∧ Aside0 (kq ≤ k) ∧ Drawn0 w w')
    case atStart => exact ⟨(0), (by first | rfl | (simp; done) | (simp [*]; done)), H', ⟨Nat.le_refl _⟩, by repeat (first | exact Drawn0.refl _ | apply Drawn0.step)⟩
    case round =>
      clear H'
      try clear c2
      try clear c2b0
      try clear c2b1
      try clear p2
      obtain ⟨x3_1, rfl, HA, HK1, ⟨m1, rfl⟩⟩ := hrel
      cases gk with
      | zero => exact absurd HA.out (by simp [rollcallref05_Few.l0])
      | succ k1 =>
        have H := HA.out
        clear HA
        simp only [rollcallref05_Few.l0] at H
        by_cases c3 : x3_1 < (l0.length : Int)
        · rw [if_pos c3] at H
          have c3b0 : decide (x3_1 < (l0.length : Int)) = true := decide_eq_true c3
          clear c3
          by_cases c4 : 0 ≤ x3_1
          · rw [if_pos c4] at H
            have c4b0 : decide (0 ≤ x3_1) = true := decide_eq_true c4
            clear c4
            by_cases c5 : (((rd_T52 l0 x3_1).f0).size : Int) > 60
            · rw [if_pos c5] at H
              have c5b0 : decide (60 < (((rd_T52 l0 x3_1).f0).size : Int)) = true := decide_eq_true c5
              have c5b1 : decide (60 < ((rd_T52 l0 x3_1).f0).size) = true := decide_eq_true (by omega)
              clear c5
              obtain rfl := Option.some.inj H
              have p105 : 0 ≤ (x3_1 : Int) := of_decide_eq_true (by first | (with_reducible assumption) | assumption)
              have q105 : x3_1 < (l0.length : Int) := of_decide_eq_true (by first | (with_reducible assumption) | assumption)
              obtain ⟨ad105, e105, hx105_0, hx105_1, hx105_2, hx105_3, hx105_4⟩ := at_T52 HR0.out x3_1 p105 q105
              cases e105
              replace p105 := eq_true p105
              replace q105 := eq_true q105
              go_wp2
              go_ret
              exact ⟨by first | rfl | (simp; done) | (simp [*]; done), by repeat (first | exact Drawn0.refl _ | apply Drawn0.step)⟩
            · rw [if_neg c5] at H
              have c5b0 : decide (60 < (((rd_T52 l0 x3_1).f0).size : Int)) = false := decide_eq_false c5
              have c5b1 : decide (60 < ((rd_T52 l0 x3_1).f0).size) = false := decide_eq_false (by omega)
              clear c5
              by_cases c6 : (((rd_T52 l0 x3_1).f1.f3).size : Int) > 100
              · rw [if_pos c6] at H
                have c6b0 : decide (100 < (((rd_T52 l0 x3_1).f1.f3).size : Int)) = true := decide_eq_true c6
                have c6b1 : decide (100 < ((rd_T52 l0 x3_1).f1.f3).size) = true := decide_eq_true (by omega)
                clear c6
                obtain rfl := Option.some.inj H
                have p105 : 0 ≤ (x3_1 : Int) := of_decide_eq_true (by first | (with_reducible assumption) | assumption)
                have q105 : x3_1 < (l0.length : Int) := of_decide_eq_true (by first | (with_reducible assumption) | assumption)
                obtain ⟨ad105, e105, hx105_0, hx105_1, hx105_2, hx105_3, hx105_4⟩ := at_T52 HR0.out x3_1 p105 q105
                cases e105
                replace p105 := eq_true p105
                replace q105 := eq_true q105
                have p106 : 0 ≤ (x3_1 : Int) := of_decide_eq_true (by first | (with_reducible assumption) | assumption)
                have q106 : x3_1 < (l0.length : Int) := of_decide_eq_true (by first | (with_reducible assumption) | assumption)
                obtain ⟨ad106, e106, hx106_0, hx106_1, hx106_2, hx106_3, hx106_4⟩ := at_T52 HR0.out x3_1 p106 q106
                obtain rfl : ad105 = ad106 := (by injection e106)
                replace p106 := eq_true p106
                replace q106 := eq_true q106
                go_wp2
                go_ret
                exact ⟨by first | rfl | (simp; done) | (simp [*]; done), by repeat (first | exact Drawn0.refl _ | apply Drawn0.step)⟩
              · rw [if_neg c6] at H
                have c6b0 : decide (100 < (((rd_T52 l0 x3_1).f1.f3).size : Int)) = false := decide_eq_false c6
                have c6b1 : decide (100 < ((rd_T52 l0 x3_1).f1.f3).size) = false := decide_eq_false (by omega)
                clear c6
                have H' := Aside0.mk H
                clear H
                have p105 : 0 ≤ (x3_1 : Int) := of_decide_eq_true (by first | (with_reducible assumption) | assumption)
                have q105 : x3_1 < (l0.length : Int) := of_decide_eq_true (by first | (with_reducible assumption) | assumption)
                obtain ⟨ad105, e105, hx105_0, hx105_1, hx105_2, hx105_3, hx105_4⟩ := at_T52 HR0.out x3_1 p105 q105
                cases e105
                replace p105 := eq_true p105
                replace q105 := eq_true q105
                have p106 : 0 ≤ (x3_1 : Int) := of_decide_eq_true (by first | (with_reducible assumption) | assumption)
                have q106 : x3_1 < (l0.length : Int) := of_decide_eq_true (by first | (with_reducible assumption) | assumption)
                obtain ⟨ad106, e106, hx106_0, hx106_1, hx106_2, hx106_3, hx106_4⟩ := at_T52 HR0.out x3_1 p106 q106
                obtain rfl : ad105 = ad106 := (by injection e106)
                replace p106 := eq_true p106
                replace q106 := eq_true q106
                go_wp2
                go_roundg k1
                case measure => have := HK1.out; omega
                case rel => exact ⟨(wrap64 (x3_1 + 1)), (by first | rfl | (simp; done) | (simp [*]; done)), H', ⟨by have := HK1.out; omega⟩, by repeat (first | exact Drawn0.refl _ | apply Drawn0.step)⟩
          · rw [if_neg c4] at H
            exact absurd H (by simp)
        · rw [if_neg c3] at H
          have c3b0 : decide (x3_1 < (l0.length : Int)) = false := decide_eq_false c3
          clear c3
          obtain rfl := Option.some.inj H
          go_wp2
          go_ret
          exact ⟨by first | rfl | (simp; done) | (simp [*]; done), by repeat (first | exact Drawn0.refl _ | apply Drawn0.step)⟩

/-! ### ident_Is: function 30 -/
abbrev ident_Is.f := @Go.Proofs.Ythcmelchgnekpaa.XIdent.ident_Is.f
set_option maxHeartbeats 1000000 in
theorem ident_Is.calls (a0 : ByteArray) (r : Bool) (w : World) (h : ident_Is.f a0 = some r) :
    Calls Try.prog 30 #[.string a0] w fun e w' => e = .returned (.bool r) ∧ Below w.heap.size w w' := Go.Proofs.Ythcmelchgnekpaa.XIdent.ident_Is.calls a0 r w h

/-! ### value_May: function 31 -/
abbrev value_May.f := @Go.Proofs.Ythcmelchgnekpaa.XMay.value_May.f
set_option maxHeartbeats 1000000 in
theorem value_May.calls (a0_0 : Int) (a0_1 : Int) (a0_2 : Int) (a0_3 : ByteArray) (r : Bool) (w : World) (h : value_May.f a0_0 a0_1 a0_2 a0_3 = some r) :
    Calls Try.prog 31 #[.agg #[.int .i64 a0_0, .int .i64 a0_1, .int .i64 a0_2, .string a0_3]] w fun e w' => e = .returned (.bool r) ∧ Below w.heap.size w w' := Go.Proofs.Ythcmelchgnekpaa.XMay.value_May.calls a0_0 a0_1 a0_2 a0_3 r w h

/-! ### queue_One: function 11 -/
def queue_One.f (a0_0 : ByteArray) (a0_1 : Bool) (a0_2 : Int) (a0_3 : Int) (a0_4 : Int) (a0_5 : ByteArray) : Option (Bool) := if a0_1 = true then ((ident_Is.f a0_0).bind fun t108 => (if t108 = true then ((value_May.f a0_2 a0_3 a0_4 a0_5).bind fun t109 => (some t109)) else (some false))) else ((ident_Is.f a0_0).bind fun t110 => (if t110 = true then (some (a0_2 == 0 && (a0_3 == 0 && (a0_4 == 0 && (a0_5.toList == ([] : List UInt8)))))) else (some false)))
set_option maxHeartbeats 8000000 in
set_option maxRecDepth 100000 in
theorem queue_One.calls (a0_0 : ByteArray) (a0_1 : Bool) (a0_2 : Int) (a0_3 : Int) (a0_4 : Int) (a0_5 : ByteArray) (r : Bool) (w : World) (h : queue_One.f a0_0 a0_1 a0_2 a0_3 a0_4 a0_5 = some r) :
    Calls Try.prog 11 #[.agg #[.string a0_0, .bool a0_1, .int .i64 a0_2, .int .i64 a0_3, .int .i64 a0_4, .string a0_5]] w fun e w' => e = .returned (.bool r) ∧ Below w.heap.size w w' := by
  have hu33 := Try.underlying33
  have hu31 := Try.underlying31
  have HB := Aside0.mk (Below.refl w.heap.size w)
  have H : (if a0_1 = true then ((ident_Is.f a0_0).bind fun t108 => (if t108 = true then ((value_May.f a0_2 a0_3 a0_4 a0_5).bind fun t109 => (some t109)) else (some false))) else ((ident_Is.f a0_0).bind fun t110 => (if t110 = true then (some (a0_2 == 0 && (a0_3 == 0 && (a0_4 == 0 && (a0_5.toList == ([] : List UInt8)))))) else (some false)))) = some r := h
  clear h
  by_cases c2 : a0_1 = true
  · subst c2
    have H1 : ((ident_Is.f a0_0).bind fun t108 => (if t108 = true then ((value_May.f a0_2 a0_3 a0_4 a0_5).bind fun t109 => (some t109)) else (some false))) = some r := by rw [if_pos rfl] at H; exact H
    clear H
    have H := H1
    clear H1
    replace H := Option.bind_eq_some_iff.mp H
    obtain ⟨t108, A30, H⟩ := H
    replace H : (if t108 = true then ((value_May.f a0_2 a0_3 a0_4 a0_5).bind fun t109 => (some t109)) else (some false)) = some r := H
    have A3 := Aside0.mk A30
    clear A30
    by_cases c4 : t108 = true
    · subst c4
      have H1 : ((value_May.f a0_2 a0_3 a0_4 a0_5).bind fun t109 => (some t109)) = some r := by rw [if_pos rfl] at H; exact H
      clear H
      have H := H1
      clear H1
      replace H := Option.bind_eq_some_iff.mp H
      obtain ⟨t109, A50, H⟩ := H
      replace H : (some t109) = some r := H
      have A5 := Aside0.mk A50
      clear A50
      obtain rfl := Option.some.inj H
      go_enter Try.func11, Try.ntmps11
      go_wp2_with (first | ((with_reducible refine gate_dst (N := 1) rfl ?_); refine box_event ?hg (N := 1) ?hd (cs := #[.string a0_0, .bool true, .int .i64 a0_2, .int .i64 a0_3, .int .i64 a0_4, .string a0_5]) (t := 33) ?hr ?_; (case hd => rfl); (case hg => rfl); (case hr => first | (go_simp; done) | (go_simp; rfl)); intro gb107 hg w6 hbox hb; have BK107 := Aside0.mk (hbox); have GW107 := Aside0.mk ((by rw [hg]; exact (below_size (hS HB.out)) : w.heap.size ≤ gb107)); have GE107 := Aside0.mk ((by rw [hg]; exact (below_size (hS HB.out)) : w.heap.size ≤ gb107)); replace HB := Aside0.mk (below_step (hS HB.out) hb); clear hb hbox hg; have hcz7_0 : w6.cell? ⟨gb107, 0, none⟩ = some (.string a0_0) := (blk_cell BK107.out 0).trans rfl; have hcz7_1 : w6.cell? ⟨gb107, 1, none⟩ = some (.bool true) := (blk_cell BK107.out 1).trans rfl; have hcz7_2 : w6.cell? ⟨gb107, 2, none⟩ = some (.int .i64 a0_2) := (blk_cell BK107.out 2).trans rfl; have hcz7_3 : w6.cell? ⟨gb107, 3, none⟩ = some (.int .i64 a0_3) := (blk_cell BK107.out 3).trans rfl; have hcz7_4 : w6.cell? ⟨gb107, 4, none⟩ = some (.int .i64 a0_4) := (blk_cell BK107.out 4).trans rfl; have hcz7_5 : w6.cell? ⟨gb107, 5, none⟩ = some (.string a0_5) := (blk_cell BK107.out 5).trans rfl; have hfz7_0 := blk_frozen BK107.out 0; have hfz7_1 := blk_frozen BK107.out 1; have hfz7_2 := blk_frozen BK107.out 2; have hfz7_3 := blk_frozen BK107.out 3; have hfz7_4 := blk_frozen BK107.out 4; have hfz7_5 := blk_frozen BK107.out 5) | ((with_reducible refine gate_callee (f := 30) rfl ?_); refine goesL_ (some 7) rfl rfl Try.func30 (by kernel_rfl) rfl #[.string a0_0] rfl (by (try simp only [List.map_toArray, List.map_cons, List.map_nil]); first | done | rfl | (simp only [List.length_drop, List.length_take]; rfl)) ?_; (with_reducible refine (ident_Is.calls a0_0 true _ A3.out).mono ?_); rintro e w8 ⟨rfl, hb⟩; refine ⟨_, rfl, ?_⟩; replace BK107 := Aside0.mk (blk_below (bS BK107.out) hb); replace HB := Aside0.mk (below_step (hS HB.out) hb); (try clear hb); (try clear hb2); (try clear hk); (try clear hi); have hcz9_0 : w8.cell? ⟨gb107, 0, none⟩ = some (.string a0_0) := (blk_cell BK107.out 0).trans rfl; have hcz9_1 : w8.cell? ⟨gb107, 1, none⟩ = some (.bool true) := (blk_cell BK107.out 1).trans rfl; have hcz9_2 : w8.cell? ⟨gb107, 2, none⟩ = some (.int .i64 a0_2) := (blk_cell BK107.out 2).trans rfl; have hcz9_3 : w8.cell? ⟨gb107, 3, none⟩ = some (.int .i64 a0_3) := (blk_cell BK107.out 3).trans rfl; have hcz9_4 : w8.cell? ⟨gb107, 4, none⟩ = some (.int .i64 a0_4) := (blk_cell BK107.out 4).trans rfl; have hcz9_5 : w8.cell? ⟨gb107, 5, none⟩ = some (.string a0_5) := (blk_cell BK107.out 5).trans rfl; have hfz9_0 := blk_frozen BK107.out 0; have hfz9_1 := blk_frozen BK107.out 1; have hfz9_2 := blk_frozen BK107.out 2; have hfz9_3 := blk_frozen BK107.out 3; have hfz9_4 := blk_frozen BK107.out 4; have hfz9_5 := blk_frozen BK107.out 5) | (go_at_call 31; (with_reducible refine (value_May.calls a0_2 a0_3 a0_4 a0_5 t109 _ A5.out).mono ?_); rintro e w10 ⟨rfl, hb⟩; replace BK107 := Aside0.mk (blk_below (bS BK107.out) hb); replace HB := Aside0.mk (below_step (hS HB.out) hb); (try clear hb); (try clear hb2); (try clear hk); (try clear hi)))
      go_ret
      exact ⟨by first | rfl | (simp [errW_none, errW_some] <;> rfl) | (simp [*, errW_none, errW_some] <;> rfl), by repeat (first | (with_reducible first | exact HB.out | apply below_alloc | apply pw_below_drewN | apply below_drew1 | refine below_set ?_ GE107.out) | exact HB.out)⟩
    · replace c4 := Bool.eq_false_iff.mpr c4
      subst c4
      have H1 : (some false) = some r := by rw [if_neg (show ¬ (false = true) by decide)] at H; exact H
      clear H
      have H := H1
      clear H1
      obtain rfl := Option.some.inj H
      go_enter Try.func11, Try.ntmps11
      go_wp2_with (first | ((with_reducible refine gate_dst (N := 1) rfl ?_); refine box_event ?hg (N := 1) ?hd (cs := #[.string a0_0, .bool true, .int .i64 a0_2, .int .i64 a0_3, .int .i64 a0_4, .string a0_5]) (t := 33) ?hr ?_; (case hd => rfl); (case hg => rfl); (case hr => first | (go_simp; done) | (go_simp; rfl)); intro gb107 hg w11 hbox hb; have BK107 := Aside0.mk (hbox); have GW107 := Aside0.mk ((by rw [hg]; exact (below_size (hS HB.out)) : w.heap.size ≤ gb107)); have GE107 := Aside0.mk ((by rw [hg]; exact (below_size (hS HB.out)) : w.heap.size ≤ gb107)); replace HB := Aside0.mk (below_step (hS HB.out) hb); clear hb hbox hg; have hcz12_0 : w11.cell? ⟨gb107, 0, none⟩ = some (.string a0_0) := (blk_cell BK107.out 0).trans rfl; have hcz12_1 : w11.cell? ⟨gb107, 1, none⟩ = some (.bool true) := (blk_cell BK107.out 1).trans rfl; have hcz12_2 : w11.cell? ⟨gb107, 2, none⟩ = some (.int .i64 a0_2) := (blk_cell BK107.out 2).trans rfl; have hcz12_3 : w11.cell? ⟨gb107, 3, none⟩ = some (.int .i64 a0_3) := (blk_cell BK107.out 3).trans rfl; have hcz12_4 : w11.cell? ⟨gb107, 4, none⟩ = some (.int .i64 a0_4) := (blk_cell BK107.out 4).trans rfl; have hcz12_5 : w11.cell? ⟨gb107, 5, none⟩ = some (.string a0_5) := (blk_cell BK107.out 5).trans rfl; have hfz12_0 := blk_frozen BK107.out 0; have hfz12_1 := blk_frozen BK107.out 1; have hfz12_2 := blk_frozen BK107.out 2; have hfz12_3 := blk_frozen BK107.out 3; have hfz12_4 := blk_frozen BK107.out 4; have hfz12_5 := blk_frozen BK107.out 5) | ((with_reducible refine gate_callee (f := 30) rfl ?_); refine goesL_ (some 7) rfl rfl Try.func30 (by kernel_rfl) rfl #[.string a0_0] rfl (by (try simp only [List.map_toArray, List.map_cons, List.map_nil]); first | done | rfl | (simp only [List.length_drop, List.length_take]; rfl)) ?_; (with_reducible refine (ident_Is.calls a0_0 false _ A3.out).mono ?_); rintro e w13 ⟨rfl, hb⟩; refine ⟨_, rfl, ?_⟩; replace BK107 := Aside0.mk (blk_below (bS BK107.out) hb); replace HB := Aside0.mk (below_step (hS HB.out) hb); (try clear hb); (try clear hb2); (try clear hk); (try clear hi)))
      go_ret
      exact ⟨by first | rfl | (simp [errW_none, errW_some] <;> rfl) | (simp [*, errW_none, errW_some] <;> rfl), by repeat (first | (with_reducible first | exact HB.out | apply below_alloc | apply pw_below_drewN | apply below_drew1 | refine below_set ?_ GE107.out) | exact HB.out)⟩
  · replace c2 := Bool.eq_false_iff.mpr c2
    subst c2
    have H1 : ((ident_Is.f a0_0).bind fun t110 => (if t110 = true then (some (a0_2 == 0 && (a0_3 == 0 && (a0_4 == 0 && (a0_5.toList == ([] : List UInt8)))))) else (some false))) = some r := by rw [if_neg (show ¬ (false = true) by decide)] at H; exact H
    clear H
    have H := H1
    clear H1
    replace H := Option.bind_eq_some_iff.mp H
    obtain ⟨t110, A140, H⟩ := H
    replace H : (if t110 = true then (some (a0_2 == 0 && (a0_3 == 0 && (a0_4 == 0 && (a0_5.toList == ([] : List UInt8)))))) else (some false)) = some r := H
    have A14 := Aside0.mk A140
    clear A140
    by_cases c15 : t110 = true
    · subst c15
      have H1 : (some (a0_2 == 0 && (a0_3 == 0 && (a0_4 == 0 && (a0_5.toList == ([] : List UInt8)))))) = some r := by rw [if_pos rfl] at H; exact H
      clear H
      have H := H1
      clear H1
      obtain rfl := Option.some.inj H
      go_enter Try.func11, Try.ntmps11
      go_wp2_with (first | ((with_reducible refine gate_dst (N := 1) rfl ?_); refine box_event ?hg (N := 1) ?hd (cs := #[.string a0_0, .bool false, .int .i64 a0_2, .int .i64 a0_3, .int .i64 a0_4, .string a0_5]) (t := 33) ?hr ?_; (case hd => rfl); (case hg => rfl); (case hr => first | (go_simp; done) | (go_simp; rfl)); intro gb107 hg w16 hbox hb; have BK107 := Aside0.mk (hbox); have GW107 := Aside0.mk ((by rw [hg]; exact (below_size (hS HB.out)) : w.heap.size ≤ gb107)); have GE107 := Aside0.mk ((by rw [hg]; exact (below_size (hS HB.out)) : w.heap.size ≤ gb107)); replace HB := Aside0.mk (below_step (hS HB.out) hb); clear hb hbox hg; have hcz17_0 : w16.cell? ⟨gb107, 0, none⟩ = some (.string a0_0) := (blk_cell BK107.out 0).trans rfl; have hcz17_1 : w16.cell? ⟨gb107, 1, none⟩ = some (.bool false) := (blk_cell BK107.out 1).trans rfl; have hcz17_2 : w16.cell? ⟨gb107, 2, none⟩ = some (.int .i64 a0_2) := (blk_cell BK107.out 2).trans rfl; have hcz17_3 : w16.cell? ⟨gb107, 3, none⟩ = some (.int .i64 a0_3) := (blk_cell BK107.out 3).trans rfl; have hcz17_4 : w16.cell? ⟨gb107, 4, none⟩ = some (.int .i64 a0_4) := (blk_cell BK107.out 4).trans rfl; have hcz17_5 : w16.cell? ⟨gb107, 5, none⟩ = some (.string a0_5) := (blk_cell BK107.out 5).trans rfl; have hfz17_0 := blk_frozen BK107.out 0; have hfz17_1 := blk_frozen BK107.out 1; have hfz17_2 := blk_frozen BK107.out 2; have hfz17_3 := blk_frozen BK107.out 3; have hfz17_4 := blk_frozen BK107.out 4; have hfz17_5 := blk_frozen BK107.out 5) | ((with_reducible refine gate_callee (f := 30) rfl ?_); refine goesL_ (some 15) rfl rfl Try.func30 (by kernel_rfl) rfl #[.string a0_0] rfl (by (try simp only [List.map_toArray, List.map_cons, List.map_nil]); first | done | rfl | (simp only [List.length_drop, List.length_take]; rfl)) ?_; (with_reducible refine (ident_Is.calls a0_0 true _ A14.out).mono ?_); rintro e w18 ⟨rfl, hb⟩; refine ⟨_, rfl, ?_⟩; replace BK107 := Aside0.mk (blk_below (bS BK107.out) hb); replace HB := Aside0.mk (below_step (hS HB.out) hb); (try clear hb); (try clear hb2); (try clear hk); (try clear hi); have hcz19_0 : w18.cell? ⟨gb107, 0, none⟩ = some (.string a0_0) := (blk_cell BK107.out 0).trans rfl; have hcz19_1 : w18.cell? ⟨gb107, 1, none⟩ = some (.bool false) := (blk_cell BK107.out 1).trans rfl; have hcz19_2 : w18.cell? ⟨gb107, 2, none⟩ = some (.int .i64 a0_2) := (blk_cell BK107.out 2).trans rfl; have hcz19_3 : w18.cell? ⟨gb107, 3, none⟩ = some (.int .i64 a0_3) := (blk_cell BK107.out 3).trans rfl; have hcz19_4 : w18.cell? ⟨gb107, 4, none⟩ = some (.int .i64 a0_4) := (blk_cell BK107.out 4).trans rfl; have hcz19_5 : w18.cell? ⟨gb107, 5, none⟩ = some (.string a0_5) := (blk_cell BK107.out 5).trans rfl; have hfz19_0 := blk_frozen BK107.out 0; have hfz19_1 := blk_frozen BK107.out 1; have hfz19_2 := blk_frozen BK107.out 2; have hfz19_3 := blk_frozen BK107.out 3; have hfz19_4 := blk_frozen BK107.out 4; have hfz19_5 := blk_frozen BK107.out 5))
      go_ret
      exact ⟨by first | rfl | (simp [errW_none, errW_some] <;> rfl) | (simp [*, errW_none, errW_some] <;> rfl), by repeat (first | (with_reducible first | exact HB.out | apply below_alloc | apply pw_below_drewN | apply below_drew1 | refine below_set ?_ GE107.out) | exact HB.out)⟩
    · replace c15 := Bool.eq_false_iff.mpr c15
      subst c15
      have H1 : (some false) = some r := by rw [if_neg (show ¬ (false = true) by decide)] at H; exact H
      clear H
      have H := H1
      clear H1
      obtain rfl := Option.some.inj H
      go_enter Try.func11, Try.ntmps11
      go_wp2_with (first | ((with_reducible refine gate_dst (N := 1) rfl ?_); refine box_event ?hg (N := 1) ?hd (cs := #[.string a0_0, .bool false, .int .i64 a0_2, .int .i64 a0_3, .int .i64 a0_4, .string a0_5]) (t := 33) ?hr ?_; (case hd => rfl); (case hg => rfl); (case hr => first | (go_simp; done) | (go_simp; rfl)); intro gb107 hg w20 hbox hb; have BK107 := Aside0.mk (hbox); have GW107 := Aside0.mk ((by rw [hg]; exact (below_size (hS HB.out)) : w.heap.size ≤ gb107)); have GE107 := Aside0.mk ((by rw [hg]; exact (below_size (hS HB.out)) : w.heap.size ≤ gb107)); replace HB := Aside0.mk (below_step (hS HB.out) hb); clear hb hbox hg; have hcz21_0 : w20.cell? ⟨gb107, 0, none⟩ = some (.string a0_0) := (blk_cell BK107.out 0).trans rfl; have hcz21_1 : w20.cell? ⟨gb107, 1, none⟩ = some (.bool false) := (blk_cell BK107.out 1).trans rfl; have hcz21_2 : w20.cell? ⟨gb107, 2, none⟩ = some (.int .i64 a0_2) := (blk_cell BK107.out 2).trans rfl; have hcz21_3 : w20.cell? ⟨gb107, 3, none⟩ = some (.int .i64 a0_3) := (blk_cell BK107.out 3).trans rfl; have hcz21_4 : w20.cell? ⟨gb107, 4, none⟩ = some (.int .i64 a0_4) := (blk_cell BK107.out 4).trans rfl; have hcz21_5 : w20.cell? ⟨gb107, 5, none⟩ = some (.string a0_5) := (blk_cell BK107.out 5).trans rfl; have hfz21_0 := blk_frozen BK107.out 0; have hfz21_1 := blk_frozen BK107.out 1; have hfz21_2 := blk_frozen BK107.out 2; have hfz21_3 := blk_frozen BK107.out 3; have hfz21_4 := blk_frozen BK107.out 4; have hfz21_5 := blk_frozen BK107.out 5) | ((with_reducible refine gate_callee (f := 30) rfl ?_); refine goesL_ (some 15) rfl rfl Try.func30 (by kernel_rfl) rfl #[.string a0_0] rfl (by (try simp only [List.map_toArray, List.map_cons, List.map_nil]); first | done | rfl | (simp only [List.length_drop, List.length_take]; rfl)) ?_; (with_reducible refine (ident_Is.calls a0_0 false _ A14.out).mono ?_); rintro e w22 ⟨rfl, hb⟩; refine ⟨_, rfl, ?_⟩; replace BK107 := Aside0.mk (blk_below (bS BK107.out) hb); replace HB := Aside0.mk (below_step (hS HB.out) hb); (try clear hb); (try clear hb2); (try clear hk); (try clear hi)))
      go_ret
      exact ⟨by first | rfl | (simp [errW_none, errW_some] <;> rfl) | (simp [*, errW_none, errW_some] <;> rfl), by repeat (first | (with_reducible first | exact HB.out | apply below_alloc | apply pw_below_drewN | apply below_drew1 | refine below_set ?_ GE107.out) | exact HB.out)⟩

/-! ### api_Change_string: function 34 -/
abbrev api_Change_string.f := @Go.Proofs.Ythcmelchgnekpaa.XPlace.queue_place.f
set_option maxHeartbeats 1000000 in
theorem api_Change_string.calls (A0 : Option Addr) (c0 : Nat) (l0 : List (S33)) (a1 : ByteArray) (r1 : Int) (r2 : Bool) (w : World) (hr0 : Kd.C k33 w A0 l0.length l0) (hc0 : l0.length ≤ c0) (h : api_Change_string.f l0 a1 = some (r1, r2)) :
    Calls Try.prog 34 #[.slice A0 l0.length c0, .string a1, .func (.func 35) #[] #[]] w fun e w' => e = .returned (.tuple #[.int .i64 r1, .bool r2]) ∧ Below w.heap.size w w' := Go.Proofs.Ythcmelchgnekpaa.XPlace.queue_place.calls A0 c0 l0 a1 r1 r2 w hr0 hc0 h

/-! ### queue_contact: function 35 -/
def queue_contact.f (a0_0 : ByteArray) (a0_1 : Bool) (a0_2 : Int) (a0_3 : Int) (a0_4 : Int) (a0_5 : ByteArray) : Option (ByteArray) := some a0_0
set_option maxHeartbeats 8000000 in
set_option maxRecDepth 100000 in
theorem queue_contact.calls (a0_0 : ByteArray) (a0_1 : Bool) (a0_2 : Int) (a0_3 : Int) (a0_4 : Int) (a0_5 : ByteArray) (r : ByteArray) (w : World) (h : queue_contact.f a0_0 a0_1 a0_2 a0_3 a0_4 a0_5 = some r) :
    Calls Try.prog 35 #[.agg #[.string a0_0, .bool a0_1, .int .i64 a0_2, .int .i64 a0_3, .int .i64 a0_4, .string a0_5]] w fun e w' => e = .returned (.string r) ∧ Below w.heap.size w w' := by
  have hu33 := Try.underlying33
  have HB := Aside0.mk (Below.refl w.heap.size w)
  have H : (some a0_0) = some r := h
  clear h
  obtain rfl := Option.some.inj H
  go_enter Try.func35, Try.ntmps35
  go_wp2_with (first | ((with_reducible refine gate_dst (N := 1) rfl ?_); refine box_event ?hg (N := 1) ?hd (cs := #[.string a0_0, .bool a0_1, .int .i64 a0_2, .int .i64 a0_3, .int .i64 a0_4, .string a0_5]) (t := 33) ?hr ?_; (case hd => rfl); (case hg => rfl); (case hr => first | (go_simp; done) | (go_simp; rfl)); intro gb111 hg w2 hbox hb; have BK111 := Aside0.mk (hbox); have GW111 := Aside0.mk ((by rw [hg]; exact (below_size (hS HB.out)) : w.heap.size ≤ gb111)); have GE111 := Aside0.mk ((by rw [hg]; exact (below_size (hS HB.out)) : w.heap.size ≤ gb111)); replace HB := Aside0.mk (below_step (hS HB.out) hb); clear hb hbox hg; have hcz3_0 : w2.cell? ⟨gb111, 0, none⟩ = some (.string a0_0) := (blk_cell BK111.out 0).trans rfl; have hcz3_1 : w2.cell? ⟨gb111, 1, none⟩ = some (.bool a0_1) := (blk_cell BK111.out 1).trans rfl; have hcz3_2 : w2.cell? ⟨gb111, 2, none⟩ = some (.int .i64 a0_2) := (blk_cell BK111.out 2).trans rfl; have hcz3_3 : w2.cell? ⟨gb111, 3, none⟩ = some (.int .i64 a0_3) := (blk_cell BK111.out 3).trans rfl; have hcz3_4 : w2.cell? ⟨gb111, 4, none⟩ = some (.int .i64 a0_4) := (blk_cell BK111.out 4).trans rfl; have hcz3_5 : w2.cell? ⟨gb111, 5, none⟩ = some (.string a0_5) := (blk_cell BK111.out 5).trans rfl; have hfz3_0 := blk_frozen BK111.out 0; have hfz3_1 := blk_frozen BK111.out 1; have hfz3_2 := blk_frozen BK111.out 2; have hfz3_3 := blk_frozen BK111.out 3; have hfz3_4 := blk_frozen BK111.out 4; have hfz3_5 := blk_frozen BK111.out 5))
  go_ret
  exact ⟨by first | rfl | (simp [errW_none, errW_some] <;> rfl) | (simp [*, errW_none, errW_some] <;> rfl), by repeat (first | (with_reducible first | exact HB.out | apply below_alloc | apply pw_below_drewN | apply below_drew1 | refine below_set ?_ GE111.out) | exact HB.out)⟩

/-! ### queue_May: function 13 -/
def queue_May.l0 : Nat → Int → List (S33) → Int → Int → List (S33) → Bool → Option (Bool)
  | 0, _, _, _, _, _, _ => none
  | k + 1, x1, x10, x11, x12, x113000, x113001 => if x12 < x11 then (if 0 ≤ x12 then (if x12 < (x10.length : Int) then ((api_Change_string.f x113000 ((rd_T33 x10 x12).f0)).bind fun bt115 => (if bt115.1 = x12 then ((queue_One.f ((rd_T33 x10 x12).f0) ((rd_T33 x10 x12).f1) ((rd_T33 x10 x12).f2.f0) ((rd_T33 x10 x12).f2.f1) ((rd_T33 x10 x12).f2.f2) ((rd_T33 x10 x12).f2.f3)).bind fun t117 => (if t117 = true then (queue_May.l0 k x1 x10 x11 (wrap64 (x12 + 1)) x113000 x113001) else (some false))) else (some false))) else (none)) else (none)) else (if (x113000.length : Int) ≤ x1 then (if x113001 = true then (some ((x113000.length : Int) == 0)) else (some true)) else (some false))
def queue_May.f (k : Nat) (l0_0 : List (S33)) (a0_1 : Bool) (a1 : Int) : Option (Bool) := queue_May.l0 k a1 l0_0 (l0_0.length : Int) 0 l0_0 a0_1
theorem queue_May.mono_l : ∀ k, (∀ y0 y1 y2 y3 y4 y5, LeO (queue_May.l0 k y0 y1 y2 y3 y4 y5) (queue_May.l0 (k + 1) y0 y1 y2 y3 y4 y5))
  | 0 => fun _ _ _ _ _ _ r h => by simp [queue_May.l0] at h
  | k + 1 => by
    have ih0 := queue_May.mono_l k
    · intro y0 y1 y2 y3 y4 y5
      unfold queue_May.l0
      repeat' first
      | (with_reducible exact ih0 _ _ _ _ _ _)
      | (with_reducible exact LeO.refl _)
      | (with_reducible exact LeO.none _)
      | (with_reducible refine LeO.ite ?_ ?_)
      | (with_reducible refine LeO.bind ?_ (fun _ => ?_))
      | exact ih0 _ _ _ _ _ _
      | exact LeO.none _
      | refine LeO.ite ?_ ?_
      | refine LeO.bind ?_ (fun _ => ?_)
theorem queue_May.mono : ∀ a0 a1 a2 k, LeO (queue_May.f k a0 a1 a2) (queue_May.f (k + 1) a0 a1 a2) := by
  intro a0 a1 a2 k
  have ih0 := queue_May.mono_l k
  unfold queue_May.f
  repeat' first
      | (with_reducible exact ih0 _ _ _ _ _ _)
      | (with_reducible exact LeO.refl _)
      | (with_reducible exact LeO.none _)
      | (with_reducible refine LeO.ite ?_ ?_)
      | (with_reducible refine LeO.bind ?_ (fun _ => ?_))
      | exact ih0 _ _ _ _ _ _
      | exact LeO.none _
      | refine LeO.ite ?_ ?_
      | refine LeO.bind ?_ (fun _ => ?_)
set_option maxHeartbeats 8000000 in
set_option maxRecDepth 100000 in
theorem queue_May.calls (k : Nat) (A0_0 : Option Addr) (c0_0 : Nat) (l0_0 : List (S33)) (a0_1 : Bool) (a1 : Int) (r : Bool) (w : World) (hr0_0 : Kd.C k33 w A0_0 l0_0.length l0_0) (hc0_0 : l0_0.length ≤ c0_0) (h : queue_May.f k l0_0 a0_1 a1 = some r) :
    Calls Try.prog 13 #[.agg #[.slice A0_0 l0_0.length c0_0, .bool a0_1], .int .i64 a1] w fun e w' => e = .returned (.bool r) ∧ Below w.heap.size w w' := by
  have hu24 := Try.underlying24
  have hu33 := Try.underlying33
  have HR0_0 := Aside0.mk hr0_0
  have HC0_0 := Aside0.mk hc0_0
  clear hr0_0 hc0_0
  have HB := Aside0.mk (Below.refl w.heap.size w)
  have H : (queue_May.l0 k a1 l0_0 (l0_0.length : Int) 0 l0_0 a0_1) = some r := h
  clear h
  have H' := Aside0.mk H
  clear H
  go_enter Try.func13, Try.ntmps13
  go_wp2_with (first | ((with_reducible refine gate_dst (N := 2) rfl ?_); (try (refine gate_guard (by rfl) ?_; dsimp only)); refine box_event ?hg (N := 2) ?hd (cs := #[.slice A0_0 l0_0.length c0_0, .bool a0_1]) (t := 24) ?hr ?_; (case hd => rfl); (case hg => rfl); (case hr => first | (go_simp; done) | (go_simp; rfl)); intro gb112 hg w3 hbox hb; have BK112 := Aside0.mk (hbox); have GW112 := Aside0.mk ((by rw [hg]; exact (below_size (hS HB.out)) : w.heap.size ≤ gb112)); have GE112 := Aside0.mk ((by rw [hg]; exact (below_size (hS HB.out)) : w.heap.size ≤ gb112)); replace HB := Aside0.mk (below_step (hS HB.out) hb); clear hb hbox hg; have hcz4_0 : w3.cell? ⟨gb112, 0, none⟩ = some (.slice A0_0 l0_0.length c0_0) := (blk_cell BK112.out 0).trans rfl; have hcz4_1 : w3.cell? ⟨gb112, 1, none⟩ = some (.bool a0_1) := (blk_cell BK112.out 1).trans rfl; have hfz4_0 := blk_frozen BK112.out 0; have hfz4_1 := blk_frozen BK112.out 1))
  go_loopg [12] k (fun kq v12 w' => ∃ (x12_1 : Int), v12 = .int .i64 x12_1 ∧ Aside0 (queue_May.l0 kq a1 l0_0 (l0_0.length : Int) x12_1 l0_0 a0_1 = some r) ∧ Aside0 (kq ≤ k) ∧ Aside0 (w'.heap[gb112]? = some (.cells #[(.slice A0_0 l0_0.length c0_0), .bool a0_1] 24 (0, 0))) ∧ Aside0 (Below w.heap.size w w'))
  case atStart => exact ⟨(0), (by first | rfl | (simp; done) | (simp [*]; done)), H', ⟨Nat.le_refl _⟩, ⟨bS BK112.out⟩, ⟨by repeat (first | (with_reducible first | exact HB.out | apply below_alloc | apply pw_below_drewN | apply below_drew1 | refine below_set ?_ GE112.out) | exact HB.out)⟩⟩
  case round =>
    clear H'
    try clear c1
    try clear p2
    try clear hcz4_0
    try clear hcz4_1
    try clear hfz4_0
    try clear hfz4_1
    obtain ⟨x12_1, rfl, HA, HK1, BK112, HB⟩ := hrel
    cases gk with
    | zero => exact absurd HA.out (by simp [queue_May.l0])
    | succ k1 =>
      have H := HA.out
      clear HA
      simp only [queue_May.l0] at H
      by_cases c5 : x12_1 < (l0_0.length : Int)
      · rw [if_pos c5] at H
        have c5b0 : decide (x12_1 < (l0_0.length : Int)) = true := decide_eq_true c5
        clear c5
        by_cases c6 : 0 ≤ x12_1
        · rw [if_pos c6] at H
          have c6b0 : decide (0 ≤ x12_1) = true := decide_eq_true c6
          clear c6
          by_cases c7 : x12_1 < (l0_0.length : Int)
          · rw [if_pos c7] at H
            have c7b0 : decide (x12_1 < (l0_0.length : Int)) = true := decide_eq_true c7
            clear c7
            replace H := Option.bind_eq_some_iff.mp H
            obtain ⟨⟨t115, t116⟩, A80, H⟩ := H
            replace H : (if t115 = x12_1 then ((queue_One.f ((rd_T33 l0_0 x12_1).f0) ((rd_T33 l0_0 x12_1).f1) ((rd_T33 l0_0 x12_1).f2.f0) ((rd_T33 l0_0 x12_1).f2.f1) ((rd_T33 l0_0 x12_1).f2.f2) ((rd_T33 l0_0 x12_1).f2.f3)).bind fun t117 => (if t117 = true then (queue_May.l0 k1 a1 l0_0 (l0_0.length : Int) (wrap64 (x12_1 + 1)) l0_0 a0_1) else (some false))) else (some false)) = some r := H
            have A8 := Aside0.mk A80
            clear A80
            by_cases c9 : t115 = x12_1
            · rw [if_pos c9] at H
              have c9b0 : (t115 == x12_1) = true := beq_iff_eq.mpr c9
              have c9b1 : (t115 != x12_1) = false := bne_eq_false_iff_eq.mpr c9
              clear c9
              replace H := Option.bind_eq_some_iff.mp H
              obtain ⟨t117, A100, H⟩ := H
              replace H : (if t117 = true then (queue_May.l0 k1 a1 l0_0 (l0_0.length : Int) (wrap64 (x12_1 + 1)) l0_0 a0_1) else (some false)) = some r := H
              have A10 := Aside0.mk A100
              clear A100
              by_cases c11 : t117 = true
              · subst c11
                have H1 : (queue_May.l0 k1 a1 l0_0 (l0_0.length : Int) (wrap64 (x12_1 + 1)) l0_0 a0_1) = some r := by rw [if_pos rfl] at H; exact H
                clear H
                have H := H1
                clear H1
                have H' := Aside0.mk H
                clear H
                have p113 : 0 ≤ (x12_1 : Int) := of_decide_eq_true (by first | (with_reducible assumption) | assumption)
                have q113 : x12_1 < (l0_0.length : Int) := of_decide_eq_true (by first | (with_reducible assumption) | assumption)
                obtain ⟨ad113, e113, hx113_0, hx113_1, hx113_2, hx113_3, hx113_4, hx113_5⟩ := at_T33 HR0_0.out x12_1 p113 q113
                cases e113
                replace hx113_0 := (HB.out.cell (World.block_lt_of_cell? w _ hx113_0)).trans hx113_0
                replace hx113_1 := (HB.out.cell (World.block_lt_of_cell? w _ hx113_1)).trans hx113_1
                replace hx113_2 := (HB.out.cell (World.block_lt_of_cell? w _ hx113_2)).trans hx113_2
                replace hx113_3 := (HB.out.cell (World.block_lt_of_cell? w _ hx113_3)).trans hx113_3
                replace hx113_4 := (HB.out.cell (World.block_lt_of_cell? w _ hx113_4)).trans hx113_4
                replace hx113_5 := (HB.out.cell (World.block_lt_of_cell? w _ hx113_5)).trans hx113_5
                replace p113 := eq_true p113
                replace q113 := eq_true q113
                go_wp2_with (first | ((with_reducible refine gate_dst (N := 6) rfl ?_); (try (refine gate_guard (by rfl) ?_; dsimp only)); refine box_event ?hg (N := 6) ?hd (cs := #[.string (⟨#[]⟩ : ByteArray), .bool false, .int .i64 0, .int .i64 0, .int .i64 0, .string (⟨#[]⟩ : ByteArray)]) (t := 33) ?hr ?_; (case hd => rfl); (case hg => rfl); (case hr => first | (go_simp; done) | (go_simp; rfl)); intro gb114 hg w12 hbox hb; have BK114 := Aside0.mk (hbox); have GW114 := Aside0.mk ((by rw [hg]; exact (below_size (hS HB.out)) : w.heap.size ≤ gb114)); have GE114 := Aside0.mk ((by rw [hg]; exact (below_size (hS HB.out)) : w.heap.size ≤ gb114)); replace HB := Aside0.mk (below_step (hS HB.out) hb); have NB112_114 := Aside0.mk ((by rw [hg]; exact Nat.ne_of_lt (blk_lt (bS BK112.out)) : gb112 ≠ gb114)); have NB114_112 := Aside0.mk ((by rw [hg]; exact Nat.ne_of_gt (blk_lt (bS BK112.out)) : gb114 ≠ gb112)); replace BK112 := Aside0.mk (blk_below (bS BK112.out) hb); clear hb hbox hg; have hnb13 := NB114_112.out; have hnc13 := NB112_114.out; have hcz14_0 : w12.cell? ⟨gb114, 0, none⟩ = some (.string (⟨#[]⟩ : ByteArray)) := (blk_cell BK114.out 0).trans rfl; have hcz14_1 : w12.cell? ⟨gb114, 1, none⟩ = some (.bool false) := (blk_cell BK114.out 1).trans rfl; have hcz14_2 : w12.cell? ⟨gb114, 2, none⟩ = some (.int .i64 0) := (blk_cell BK114.out 2).trans rfl; have hcz14_3 : w12.cell? ⟨gb114, 3, none⟩ = some (.int .i64 0) := (blk_cell BK114.out 3).trans rfl; have hcz14_4 : w12.cell? ⟨gb114, 4, none⟩ = some (.int .i64 0) := (blk_cell BK114.out 4).trans rfl; have hcz14_5 : w12.cell? ⟨gb114, 5, none⟩ = some (.string (⟨#[]⟩ : ByteArray)) := (blk_cell BK114.out 5).trans rfl; have hfz14_0 := blk_frozen BK114.out 0; have hfz14_1 := blk_frozen BK114.out 1; have hfz14_2 := blk_frozen BK114.out 2; have hfz14_3 := blk_frozen BK114.out 3; have hfz14_4 := blk_frozen BK114.out 4; have hfz14_5 := blk_frozen BK114.out 5; have hcz15_0 : w12.cell? ⟨gb112, 0, none⟩ = some (.slice (some ad113) l0_0.length c0_0) := (blk_cell BK112.out 0).trans rfl; have hcz15_1 : w12.cell? ⟨gb112, 1, none⟩ = some (.bool a0_1) := (blk_cell BK112.out 1).trans rfl; have hfz15_0 := blk_frozen BK112.out 0; have hfz15_1 := blk_frozen BK112.out 1) | ((with_reducible refine gate_callee (f := 34) rfl ?_); refine goesL_ (some 22) rfl rfl Try.func34 (by kernel_rfl) rfl #[.slice (some ad113) l0_0.length c0_0, .string ((rd_T33 l0_0 x12_1).f0), .func (.func 35) #[] #[]] rfl (by (try simp only [List.map_toArray, List.map_cons, List.map_nil]); first | done | rfl | (simp only [List.length_drop, List.length_take]; rfl)) ?_; (with_reducible refine (api_Change_string.calls _ _ l0_0 ((rd_T33 l0_0 x12_1).f0) t115 t116 _ ?side1 ?side2 A8.out).mono ?_); (case side1 => exact Kd.C_below HR0_0.out (hF HB.out GE114.out)); (case side2 => exact HC0_0.out); rintro e w16 ⟨rfl, hb⟩; refine ⟨_, rfl, ?_⟩; replace BK112 := Aside0.mk (blk_below (bF (BK112.out) NB112_114.out) hb); replace BK114 := Aside0.mk (blk_below (g := gb114) (o := .cells #[.string ((rd_T33 l0_0 x12_1).f0), .bool ((rd_T33 l0_0 x12_1).f1), .int .i64 ((rd_T33 l0_0 x12_1).f2.f0), .int .i64 ((rd_T33 l0_0 x12_1).f2.f1), .int .i64 ((rd_T33 l0_0 x12_1).f2.f2), .string ((rd_T33 l0_0 x12_1).f2.f3)] 33 (0, 0)) (bS (blk_put (bS (blk_put (bS (blk_put (bS (blk_put (bS (blk_put (bS (blk_put (bS BK114.out) 0 _ rfl)) 1 _ rfl)) 2 _ rfl)) 3 _ rfl)) 4 _ rfl)) 5 _ rfl)) hb); replace HB := Aside0.mk (below_step (hF HB.out GE114.out) hb); (try clear hb); (try clear hb2); (try clear hk); (try clear hi); have hcz17_0 : w16.cell? ⟨gb114, 0, none⟩ = some (.string ((rd_T33 l0_0 x12_1).f0)) := (blk_cell BK114.out 0).trans rfl; have hcz17_1 : w16.cell? ⟨gb114, 1, none⟩ = some (.bool ((rd_T33 l0_0 x12_1).f1)) := (blk_cell BK114.out 1).trans rfl; have hcz17_2 : w16.cell? ⟨gb114, 2, none⟩ = some (.int .i64 ((rd_T33 l0_0 x12_1).f2.f0)) := (blk_cell BK114.out 2).trans rfl; have hcz17_3 : w16.cell? ⟨gb114, 3, none⟩ = some (.int .i64 ((rd_T33 l0_0 x12_1).f2.f1)) := (blk_cell BK114.out 3).trans rfl; have hcz17_4 : w16.cell? ⟨gb114, 4, none⟩ = some (.int .i64 ((rd_T33 l0_0 x12_1).f2.f2)) := (blk_cell BK114.out 4).trans rfl; have hcz17_5 : w16.cell? ⟨gb114, 5, none⟩ = some (.string ((rd_T33 l0_0 x12_1).f2.f3)) := (blk_cell BK114.out 5).trans rfl; have hfz17_0 := blk_frozen BK114.out 0; have hfz17_1 := blk_frozen BK114.out 1; have hfz17_2 := blk_frozen BK114.out 2; have hfz17_3 := blk_frozen BK114.out 3; have hfz17_4 := blk_frozen BK114.out 4; have hfz17_5 := blk_frozen BK114.out 5) | (go_at_call 11; (with_reducible refine (queue_One.calls ((rd_T33 l0_0 x12_1).f0) ((rd_T33 l0_0 x12_1).f1) ((rd_T33 l0_0 x12_1).f2.f0) ((rd_T33 l0_0 x12_1).f2.f1) ((rd_T33 l0_0 x12_1).f2.f2) ((rd_T33 l0_0 x12_1).f2.f3) true _ A10.out).mono ?_); rintro e w18 ⟨rfl, hb⟩; replace BK112 := Aside0.mk (blk_below (bS BK112.out) hb); replace BK114 := Aside0.mk (blk_below (bS BK114.out) hb); replace HB := Aside0.mk (below_step (hS HB.out) hb); (try clear hb); (try clear hb2); (try clear hk); (try clear hi)))
                go_roundg k1
                case measure => have := HK1.out; omega
                case rel => exact ⟨(wrap64 (x12_1 + 1)), (by first | rfl | (simp; done) | (simp [*]; done)), H', ⟨by have := HK1.out; omega⟩, ⟨bS BK112.out⟩, ⟨by repeat (first | (with_reducible first | exact HB.out | apply below_alloc | apply pw_below_drewN | apply below_drew1 | refine below_set ?_ GE112.out | refine below_set ?_ GE114.out) | exact HB.out)⟩⟩
              · replace c11 := Bool.eq_false_iff.mpr c11
                subst c11
                have H1 : (some false) = some r := by rw [if_neg (show ¬ (false = true) by decide)] at H; exact H
                clear H
                have H := H1
                clear H1
                obtain rfl := Option.some.inj H
                have p113 : 0 ≤ (x12_1 : Int) := of_decide_eq_true (by first | (with_reducible assumption) | assumption)
                have q113 : x12_1 < (l0_0.length : Int) := of_decide_eq_true (by first | (with_reducible assumption) | assumption)
                obtain ⟨ad113, e113, hx113_0, hx113_1, hx113_2, hx113_3, hx113_4, hx113_5⟩ := at_T33 HR0_0.out x12_1 p113 q113
                cases e113
                replace hx113_0 := (HB.out.cell (World.block_lt_of_cell? w _ hx113_0)).trans hx113_0
                replace hx113_1 := (HB.out.cell (World.block_lt_of_cell? w _ hx113_1)).trans hx113_1
                replace hx113_2 := (HB.out.cell (World.block_lt_of_cell? w _ hx113_2)).trans hx113_2
                replace hx113_3 := (HB.out.cell (World.block_lt_of_cell? w _ hx113_3)).trans hx113_3
                replace hx113_4 := (HB.out.cell (World.block_lt_of_cell? w _ hx113_4)).trans hx113_4
                replace hx113_5 := (HB.out.cell (World.block_lt_of_cell? w _ hx113_5)).trans hx113_5
                replace p113 := eq_true p113
                replace q113 := eq_true q113
                go_wp2_with (first | ((with_reducible refine gate_dst (N := 6) rfl ?_); (try (refine gate_guard (by rfl) ?_; dsimp only)); refine box_event ?hg (N := 6) ?hd (cs := #[.string (⟨#[]⟩ : ByteArray), .bool false, .int .i64 0, .int .i64 0, .int .i64 0, .string (⟨#[]⟩ : ByteArray)]) (t := 33) ?hr ?_; (case hd => rfl); (case hg => rfl); (case hr => first | (go_simp; done) | (go_simp; rfl)); intro gb114 hg w19 hbox hb; have BK114 := Aside0.mk (hbox); have GW114 := Aside0.mk ((by rw [hg]; exact (below_size (hS HB.out)) : w.heap.size ≤ gb114)); have GE114 := Aside0.mk ((by rw [hg]; exact (below_size (hS HB.out)) : w.heap.size ≤ gb114)); replace HB := Aside0.mk (below_step (hS HB.out) hb); have NB112_114 := Aside0.mk ((by rw [hg]; exact Nat.ne_of_lt (blk_lt (bS BK112.out)) : gb112 ≠ gb114)); have NB114_112 := Aside0.mk ((by rw [hg]; exact Nat.ne_of_gt (blk_lt (bS BK112.out)) : gb114 ≠ gb112)); replace BK112 := Aside0.mk (blk_below (bS BK112.out) hb); clear hb hbox hg; have hnb20 := NB114_112.out; have hnc20 := NB112_114.out; have hcz21_0 : w19.cell? ⟨gb114, 0, none⟩ = some (.string (⟨#[]⟩ : ByteArray)) := (blk_cell BK114.out 0).trans rfl; have hcz21_1 : w19.cell? ⟨gb114, 1, none⟩ = some (.bool false) := (blk_cell BK114.out 1).trans rfl; have hcz21_2 : w19.cell? ⟨gb114, 2, none⟩ = some (.int .i64 0) := (blk_cell BK114.out 2).trans rfl; have hcz21_3 : w19.cell? ⟨gb114, 3, none⟩ = some (.int .i64 0) := (blk_cell BK114.out 3).trans rfl; have hcz21_4 : w19.cell? ⟨gb114, 4, none⟩ = some (.int .i64 0) := (blk_cell BK114.out 4).trans rfl; have hcz21_5 : w19.cell? ⟨gb114, 5, none⟩ = some (.string (⟨#[]⟩ : ByteArray)) := (blk_cell BK114.out 5).trans rfl; have hfz21_0 := blk_frozen BK114.out 0; have hfz21_1 := blk_frozen BK114.out 1; have hfz21_2 := blk_frozen BK114.out 2; have hfz21_3 := blk_frozen BK114.out 3; have hfz21_4 := blk_frozen BK114.out 4; have hfz21_5 := blk_frozen BK114.out 5; have hcz22_0 : w19.cell? ⟨gb112, 0, none⟩ = some (.slice (some ad113) l0_0.length c0_0) := (blk_cell BK112.out 0).trans rfl; have hcz22_1 : w19.cell? ⟨gb112, 1, none⟩ = some (.bool a0_1) := (blk_cell BK112.out 1).trans rfl; have hfz22_0 := blk_frozen BK112.out 0; have hfz22_1 := blk_frozen BK112.out 1) | ((with_reducible refine gate_callee (f := 34) rfl ?_); refine goesL_ (some 22) rfl rfl Try.func34 (by kernel_rfl) rfl #[.slice (some ad113) l0_0.length c0_0, .string ((rd_T33 l0_0 x12_1).f0), .func (.func 35) #[] #[]] rfl (by (try simp only [List.map_toArray, List.map_cons, List.map_nil]); first | done | rfl | (simp only [List.length_drop, List.length_take]; rfl)) ?_; (with_reducible refine (api_Change_string.calls _ _ l0_0 ((rd_T33 l0_0 x12_1).f0) t115 t116 _ ?side1 ?side2 A8.out).mono ?_); (case side1 => exact Kd.C_below HR0_0.out (hF HB.out GE114.out)); (case side2 => exact HC0_0.out); rintro e w23 ⟨rfl, hb⟩; refine ⟨_, rfl, ?_⟩; replace BK112 := Aside0.mk (blk_below (bF (BK112.out) NB112_114.out) hb); replace BK114 := Aside0.mk (blk_below (g := gb114) (o := .cells #[.string ((rd_T33 l0_0 x12_1).f0), .bool ((rd_T33 l0_0 x12_1).f1), .int .i64 ((rd_T33 l0_0 x12_1).f2.f0), .int .i64 ((rd_T33 l0_0 x12_1).f2.f1), .int .i64 ((rd_T33 l0_0 x12_1).f2.f2), .string ((rd_T33 l0_0 x12_1).f2.f3)] 33 (0, 0)) (bS (blk_put (bS (blk_put (bS (blk_put (bS (blk_put (bS (blk_put (bS (blk_put (bS BK114.out) 0 _ rfl)) 1 _ rfl)) 2 _ rfl)) 3 _ rfl)) 4 _ rfl)) 5 _ rfl)) hb); replace HB := Aside0.mk (below_step (hF HB.out GE114.out) hb); (try clear hb); (try clear hb2); (try clear hk); (try clear hi); have hcz24_0 : w23.cell? ⟨gb114, 0, none⟩ = some (.string ((rd_T33 l0_0 x12_1).f0)) := (blk_cell BK114.out 0).trans rfl; have hcz24_1 : w23.cell? ⟨gb114, 1, none⟩ = some (.bool ((rd_T33 l0_0 x12_1).f1)) := (blk_cell BK114.out 1).trans rfl; have hcz24_2 : w23.cell? ⟨gb114, 2, none⟩ = some (.int .i64 ((rd_T33 l0_0 x12_1).f2.f0)) := (blk_cell BK114.out 2).trans rfl; have hcz24_3 : w23.cell? ⟨gb114, 3, none⟩ = some (.int .i64 ((rd_T33 l0_0 x12_1).f2.f1)) := (blk_cell BK114.out 3).trans rfl; have hcz24_4 : w23.cell? ⟨gb114, 4, none⟩ = some (.int .i64 ((rd_T33 l0_0 x12_1).f2.f2)) := (blk_cell BK114.out 4).trans rfl; have hcz24_5 : w23.cell? ⟨gb114, 5, none⟩ = some (.string ((rd_T33 l0_0 x12_1).f2.f3)) := (blk_cell BK114.out 5).trans rfl; have hfz24_0 := blk_frozen BK114.out 0; have hfz24_1 := blk_frozen BK114.out 1; have hfz24_2 := blk_frozen BK114.out 2; have hfz24_3 := blk_frozen BK114.out 3; have hfz24_4 := blk_frozen BK114.out 4; have hfz24_5 := blk_frozen BK114.out 5) | (go_at_call 11; (with_reducible refine (queue_One.calls ((rd_T33 l0_0 x12_1).f0) ((rd_T33 l0_0 x12_1).f1) ((rd_T33 l0_0 x12_1).f2.f0) ((rd_T33 l0_0 x12_1).f2.f1) ((rd_T33 l0_0 x12_1).f2.f2) ((rd_T33 l0_0 x12_1).f2.f3) false _ A10.out).mono ?_); rintro e w25 ⟨rfl, hb⟩; replace BK112 := Aside0.mk (blk_below (bS BK112.out) hb); replace BK114 := Aside0.mk (blk_below (bS BK114.out) hb); replace HB := Aside0.mk (below_step (hS HB.out) hb); (try clear hb); (try clear hb2); (try clear hk); (try clear hi)))
                go_ret
                exact ⟨by first | rfl | (simp [errW_none, errW_some] <;> rfl) | (simp [*, errW_none, errW_some] <;> rfl), by repeat (first | (with_reducible first | exact HB.out | apply below_alloc | apply pw_below_drewN | apply below_drew1 | refine below_set ?_ GE112.out | refine below_set ?_ GE114.out) | exact HB.out)⟩
            · rw [if_neg c9] at H
              have c9b0 : (t115 == x12_1) = false := beq_eq_false_iff_ne.mpr c9
              have c9b1 : (t115 != x12_1) = true := bne_iff_ne.mpr c9
              obtain rfl := Option.some.inj H
              have p113 : 0 ≤ (x12_1 : Int) := of_decide_eq_true (by first | (with_reducible assumption) | assumption)
              have q113 : x12_1 < (l0_0.length : Int) := of_decide_eq_true (by first | (with_reducible assumption) | assumption)
              obtain ⟨ad113, e113, hx113_0, hx113_1, hx113_2, hx113_3, hx113_4, hx113_5⟩ := at_T33 HR0_0.out x12_1 p113 q113
              cases e113
              replace hx113_0 := (HB.out.cell (World.block_lt_of_cell? w _ hx113_0)).trans hx113_0
              replace hx113_1 := (HB.out.cell (World.block_lt_of_cell? w _ hx113_1)).trans hx113_1
              replace hx113_2 := (HB.out.cell (World.block_lt_of_cell? w _ hx113_2)).trans hx113_2
              replace hx113_3 := (HB.out.cell (World.block_lt_of_cell? w _ hx113_3)).trans hx113_3
              replace hx113_4 := (HB.out.cell (World.block_lt_of_cell? w _ hx113_4)).trans hx113_4
              replace hx113_5 := (HB.out.cell (World.block_lt_of_cell? w _ hx113_5)).trans hx113_5
              replace p113 := eq_true p113
              replace q113 := eq_true q113
              go_wp2_with (first | ((with_reducible refine gate_dst (N := 6) rfl ?_); (try (refine gate_guard (by rfl) ?_; dsimp only)); refine box_event ?hg (N := 6) ?hd (cs := #[.string (⟨#[]⟩ : ByteArray), .bool false, .int .i64 0, .int .i64 0, .int .i64 0, .string (⟨#[]⟩ : ByteArray)]) (t := 33) ?hr ?_; (case hd => rfl); (case hg => rfl); (case hr => first | (go_simp; done) | (go_simp; rfl)); intro gb114 hg w26 hbox hb; have BK114 := Aside0.mk (hbox); have GW114 := Aside0.mk ((by rw [hg]; exact (below_size (hS HB.out)) : w.heap.size ≤ gb114)); have GE114 := Aside0.mk ((by rw [hg]; exact (below_size (hS HB.out)) : w.heap.size ≤ gb114)); replace HB := Aside0.mk (below_step (hS HB.out) hb); have NB112_114 := Aside0.mk ((by rw [hg]; exact Nat.ne_of_lt (blk_lt (bS BK112.out)) : gb112 ≠ gb114)); have NB114_112 := Aside0.mk ((by rw [hg]; exact Nat.ne_of_gt (blk_lt (bS BK112.out)) : gb114 ≠ gb112)); replace BK112 := Aside0.mk (blk_below (bS BK112.out) hb); clear hb hbox hg; have hnb27 := NB114_112.out; have hnc27 := NB112_114.out; have hcz28_0 : w26.cell? ⟨gb114, 0, none⟩ = some (.string (⟨#[]⟩ : ByteArray)) := (blk_cell BK114.out 0).trans rfl; have hcz28_1 : w26.cell? ⟨gb114, 1, none⟩ = some (.bool false) := (blk_cell BK114.out 1).trans rfl; have hcz28_2 : w26.cell? ⟨gb114, 2, none⟩ = some (.int .i64 0) := (blk_cell BK114.out 2).trans rfl; have hcz28_3 : w26.cell? ⟨gb114, 3, none⟩ = some (.int .i64 0) := (blk_cell BK114.out 3).trans rfl; have hcz28_4 : w26.cell? ⟨gb114, 4, none⟩ = some (.int .i64 0) := (blk_cell BK114.out 4).trans rfl; have hcz28_5 : w26.cell? ⟨gb114, 5, none⟩ = some (.string (⟨#[]⟩ : ByteArray)) := (blk_cell BK114.out 5).trans rfl; have hfz28_0 := blk_frozen BK114.out 0; have hfz28_1 := blk_frozen BK114.out 1; have hfz28_2 := blk_frozen BK114.out 2; have hfz28_3 := blk_frozen BK114.out 3; have hfz28_4 := blk_frozen BK114.out 4; have hfz28_5 := blk_frozen BK114.out 5; have hcz29_0 : w26.cell? ⟨gb112, 0, none⟩ = some (.slice (some ad113) l0_0.length c0_0) := (blk_cell BK112.out 0).trans rfl; have hcz29_1 : w26.cell? ⟨gb112, 1, none⟩ = some (.bool a0_1) := (blk_cell BK112.out 1).trans rfl; have hfz29_0 := blk_frozen BK112.out 0; have hfz29_1 := blk_frozen BK112.out 1) | ((with_reducible refine gate_callee (f := 34) rfl ?_); refine goesL_ (some 22) rfl rfl Try.func34 (by kernel_rfl) rfl #[.slice (some ad113) l0_0.length c0_0, .string ((rd_T33 l0_0 x12_1).f0), .func (.func 35) #[] #[]] rfl (by (try simp only [List.map_toArray, List.map_cons, List.map_nil]); first | done | rfl | (simp only [List.length_drop, List.length_take]; rfl)) ?_; (with_reducible refine (api_Change_string.calls _ _ l0_0 ((rd_T33 l0_0 x12_1).f0) t115 t116 _ ?side1 ?side2 A8.out).mono ?_); (case side1 => exact Kd.C_below HR0_0.out (hF HB.out GE114.out)); (case side2 => exact HC0_0.out); rintro e w30 ⟨rfl, hb⟩; refine ⟨_, rfl, ?_⟩; replace BK112 := Aside0.mk (blk_below (bF (BK112.out) NB112_114.out) hb); replace BK114 := Aside0.mk (blk_below (g := gb114) (o := .cells #[.string ((rd_T33 l0_0 x12_1).f0), .bool ((rd_T33 l0_0 x12_1).f1), .int .i64 ((rd_T33 l0_0 x12_1).f2.f0), .int .i64 ((rd_T33 l0_0 x12_1).f2.f1), .int .i64 ((rd_T33 l0_0 x12_1).f2.f2), .string ((rd_T33 l0_0 x12_1).f2.f3)] 33 (0, 0)) (bS (blk_put (bS (blk_put (bS (blk_put (bS (blk_put (bS (blk_put (bS (blk_put (bS BK114.out) 0 _ rfl)) 1 _ rfl)) 2 _ rfl)) 3 _ rfl)) 4 _ rfl)) 5 _ rfl)) hb); replace HB := Aside0.mk (below_step (hF HB.out GE114.out) hb); (try clear hb); (try clear hb2); (try clear hk); (try clear hi)))
              go_ret
              exact ⟨by first | rfl | (simp [errW_none, errW_some] <;> rfl) | (simp [*, errW_none, errW_some] <;> rfl), by repeat (first | (with_reducible first | exact HB.out | apply below_alloc | apply pw_below_drewN | apply below_drew1 | refine below_set ?_ GE112.out | refine below_set ?_ GE114.out) | exact HB.out)⟩
          · rw [if_neg c7] at H
            exact absurd H (by simp)
        · rw [if_neg c6] at H
          exact absurd H (by simp)
      · rw [if_neg c5] at H
        have c5b0 : decide (x12_1 < (l0_0.length : Int)) = false := decide_eq_false c5
        clear c5
        by_cases c31 : (l0_0.length : Int) ≤ a1
        · rw [if_pos c31] at H
          have c31b0 : decide ((l0_0.length : Int) ≤ a1) = true := decide_eq_true c31
          clear c31
          by_cases c32 : a0_1 = true
          · subst c32
            have H1 : (some ((l0_0.length : Int) == 0)) = some r := by rw [if_pos rfl] at H; exact H
            clear H
            have H := H1
            clear H1
            obtain rfl := Option.some.inj H
            have hcz33_0 : wr.cell? ⟨gb112, 0, none⟩ = some (.slice A0_0 l0_0.length c0_0) := (blk_cell BK112.out 0).trans rfl
            have hcz33_1 : wr.cell? ⟨gb112, 1, none⟩ = some (.bool true) := (blk_cell BK112.out 1).trans rfl
            have hfz33_0 := blk_frozen BK112.out 0
            have hfz33_1 := blk_frozen BK112.out 1
            go_wp2
            go_ret
            exact ⟨by first | rfl | (simp [errW_none, errW_some] <;> rfl) | (simp [*, errW_none, errW_some] <;> rfl), by repeat (first | (with_reducible first | exact HB.out | apply below_alloc | apply pw_below_drewN | apply below_drew1 | refine below_set ?_ GE112.out) | exact HB.out)⟩
          · replace c32 := Bool.eq_false_iff.mpr c32
            subst c32
            have H1 : (some true) = some r := by rw [if_neg (show ¬ (false = true) by decide)] at H; exact H
            clear H
            have H := H1
            clear H1
            obtain rfl := Option.some.inj H
            have hcz34_0 : wr.cell? ⟨gb112, 0, none⟩ = some (.slice A0_0 l0_0.length c0_0) := (blk_cell BK112.out 0).trans rfl
            have hcz34_1 : wr.cell? ⟨gb112, 1, none⟩ = some (.bool false) := (blk_cell BK112.out 1).trans rfl
            have hfz34_0 := blk_frozen BK112.out 0
            have hfz34_1 := blk_frozen BK112.out 1
            go_wp2
            go_ret
            exact ⟨by first | rfl | (simp [errW_none, errW_some] <;> rfl) | (simp [*, errW_none, errW_some] <;> rfl), by repeat (first | (with_reducible first | exact HB.out | apply below_alloc | apply pw_below_drewN | apply below_drew1 | refine below_set ?_ GE112.out) | exact HB.out)⟩
        · rw [if_neg c31] at H
          have c31b0 : decide ((l0_0.length : Int) ≤ a1) = false := decide_eq_false c31
          clear c31
          obtain rfl := Option.some.inj H
          have hcz35_0 : wr.cell? ⟨gb112, 0, none⟩ = some (.slice A0_0 l0_0.length c0_0) := (blk_cell BK112.out 0).trans rfl
          have hcz35_1 : wr.cell? ⟨gb112, 1, none⟩ = some (.bool a0_1) := (blk_cell BK112.out 1).trans rfl
          have hfz35_0 := blk_frozen BK112.out 0
          have hfz35_1 := blk_frozen BK112.out 1
          go_wp2
          go_ret
          exact ⟨by first | rfl | (simp [errW_none, errW_some] <;> rfl) | (simp [*, errW_none, errW_some] <;> rfl), by repeat (first | (with_reducible first | exact HB.out | apply below_alloc | apply pw_below_drewN | apply below_drew1 | refine below_set ?_ GE112.out) | exact HB.out)⟩

end Go.Proofs.Ythcmelchgnekpaa.PA
