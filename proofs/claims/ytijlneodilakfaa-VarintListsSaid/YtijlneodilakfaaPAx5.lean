-- Written by a program of this session (wip/tools/xprint.py), which drives the kit's print.
import Derived.Test.YtijlneodilakfaaPAx0
import Derived.Test.YtijlneodilakfaaPAx1
namespace Go.Proofs.Ytijlneodilakfaa.PA
open Go.RowKit Go.Proofs.YtijlneodilakfaaW.PrintWords Go.Proofs.YtijlneodilakfaaW.PrintLast Go.Proofs.YtijlneodilakfaaW.PrintMore
attribute [local go_sem] max2_int min2_int max_two min_two max_three min_three max_four min_four   -- for this text's walks alone
set_option linter.unusedVariables false
set_option linter.unusedSimpArgs false

/-! ### rollcalllaw01_VarintOrder: function 7 -/
def rollcalllaw01_VarintOrder.f (k : Nat) (a0 : Int) (a1 : Int) : Option (Bool) := (varint_Put.f k a0).bind fun t198 => ((varint_Put.f k a1).bind fun t199 => (if a0 < a1 then (if (t198.size : Int) > (t199.size : Int) then (some false) else (if ((a0 == a1) != (t198.toList == t199.toList)) = true then (some false) else (if (t198.size : Int) ≥ (t199.size : Int) then ((rollcalllaw01_live.f k).bind fun t200 => (some t200)) else (if 0 ≤ (t198.size : Int) then (if (t198.size : Int) ≤ (t199.size : Int) then (if (t199.extract 0 t198.size).toList = t198.toList then (some false) else ((rollcalllaw01_live.f k).bind fun t201 => (some t201))) else (none)) else (none))))) else (if ((a0 == a1) != (t198.toList == t199.toList)) = true then (some false) else (if (t198.size : Int) ≥ (t199.size : Int) then ((rollcalllaw01_live.f k).bind fun t202 => (some t202)) else (if 0 ≤ (t198.size : Int) then (if (t198.size : Int) ≤ (t199.size : Int) then (if (t199.extract 0 t198.size).toList = t198.toList then (some false) else ((rollcalllaw01_live.f k).bind fun t203 => (some t203))) else (none)) else (none))))))
theorem rollcalllaw01_VarintOrder.mono : ∀ a0 a1 k, LeO (rollcalllaw01_VarintOrder.f k a0 a1) (rollcalllaw01_VarintOrder.f (k + 1) a0 a1) := by
  intro a0 a1 k
  unfold rollcalllaw01_VarintOrder.f
  repeat' first
      | (with_reducible exact rollcalllaw01_live.mono _)
      | (with_reducible exact varint_Put.mono _ _)
      | (with_reducible exact LeO.refl _)
      | (with_reducible exact LeO.none _)
      | (with_reducible refine LeO.ite ?_ ?_)
      | (with_reducible refine LeO.bind ?_ (fun _ => ?_))
      | exact rollcalllaw01_live.mono _
      | exact varint_Put.mono _ _
      | exact LeO.none _
      | refine LeO.ite ?_ ?_
      | refine LeO.bind ?_ (fun _ => ?_)
set_option maxHeartbeats 8000000 in
set_option maxRecDepth 100000 in
theorem rollcalllaw01_VarintOrder.calls (k : Nat) (a0 : Int) (a1 : Int) (r : Bool) (hT_ : r = true) (w : World) (h : rollcalllaw01_VarintOrder.f k a0 a1 = some r) :
    Calls Try.prog 7 #[.int .u64 a0, .int .u64 a1] w fun e w' => e = .returned (.bool r) ∧ Below w.heap.size w w' := by
  have HT := Aside0.mk hT_
  clear hT_
  have HB := Aside0.mk (Below.refl w.heap.size w)
  have H : ((varint_Put.f k a0).bind fun t198 => ((varint_Put.f k a1).bind fun t199 => (if a0 < a1 then (if (t198.size : Int) > (t199.size : Int) then (some false) else (if ((a0 == a1) != (t198.toList == t199.toList)) = true then (some false) else (if (t198.size : Int) ≥ (t199.size : Int) then ((rollcalllaw01_live.f k).bind fun t200 => (some t200)) else (if 0 ≤ (t198.size : Int) then (if (t198.size : Int) ≤ (t199.size : Int) then (if (t199.extract 0 t198.size).toList = t198.toList then (some false) else ((rollcalllaw01_live.f k).bind fun t201 => (some t201))) else (none)) else (none))))) else (if ((a0 == a1) != (t198.toList == t199.toList)) = true then (some false) else (if (t198.size : Int) ≥ (t199.size : Int) then ((rollcalllaw01_live.f k).bind fun t202 => (some t202)) else (if 0 ≤ (t198.size : Int) then (if (t198.size : Int) ≤ (t199.size : Int) then (if (t199.extract 0 t198.size).toList = t198.toList then (some false) else ((rollcalllaw01_live.f k).bind fun t203 => (some t203))) else (none)) else (none))))))) = some r := h
  clear h
  replace H := Option.bind_eq_some_iff.mp H
  obtain ⟨t198, A30, H⟩ := H
  replace H : ((varint_Put.f k a1).bind fun t199 => (if a0 < a1 then (if (t198.size : Int) > (t199.size : Int) then (some false) else (if ((a0 == a1) != (t198.toList == t199.toList)) = true then (some false) else (if (t198.size : Int) ≥ (t199.size : Int) then ((rollcalllaw01_live.f k).bind fun t200 => (some t200)) else (if 0 ≤ (t198.size : Int) then (if (t198.size : Int) ≤ (t199.size : Int) then (if (t199.extract 0 t198.size).toList = t198.toList then (some false) else ((rollcalllaw01_live.f k).bind fun t201 => (some t201))) else (none)) else (none))))) else (if ((a0 == a1) != (t198.toList == t199.toList)) = true then (some false) else (if (t198.size : Int) ≥ (t199.size : Int) then ((rollcalllaw01_live.f k).bind fun t202 => (some t202)) else (if 0 ≤ (t198.size : Int) then (if (t198.size : Int) ≤ (t199.size : Int) then (if (t199.extract 0 t198.size).toList = t198.toList then (some false) else ((rollcalllaw01_live.f k).bind fun t203 => (some t203))) else (none)) else (none)))))) = some r := H
  have A3 := Aside0.mk A30
  clear A30
  replace H := Option.bind_eq_some_iff.mp H
  obtain ⟨t199, A40, H⟩ := H
  replace H : (if a0 < a1 then (if (t198.size : Int) > (t199.size : Int) then (some false) else (if ((a0 == a1) != (t198.toList == t199.toList)) = true then (some false) else (if (t198.size : Int) ≥ (t199.size : Int) then ((rollcalllaw01_live.f k).bind fun t200 => (some t200)) else (if 0 ≤ (t198.size : Int) then (if (t198.size : Int) ≤ (t199.size : Int) then (if (t199.extract 0 t198.size).toList = t198.toList then (some false) else ((rollcalllaw01_live.f k).bind fun t201 => (some t201))) else (none)) else (none))))) else (if ((a0 == a1) != (t198.toList == t199.toList)) = true then (some false) else (if (t198.size : Int) ≥ (t199.size : Int) then ((rollcalllaw01_live.f k).bind fun t202 => (some t202)) else (if 0 ≤ (t198.size : Int) then (if (t198.size : Int) ≤ (t199.size : Int) then (if (t199.extract 0 t198.size).toList = t198.toList then (some false) else ((rollcalllaw01_live.f k).bind fun t203 => (some t203))) else (none)) else (none))))) = some r := H
  have A4 := Aside0.mk A40
  clear A40
  by_cases c5 : a0 < a1
  · rw [if_pos c5] at H
    have c5b0 : decide (a0 < a1) = true := decide_eq_true c5
    clear c5
    by_cases c6 : (t198.size : Int) > (t199.size : Int)
    · rw [if_pos c6] at H
      have c6b0 : decide ((t199.size : Int) < (t198.size : Int)) = true := decide_eq_true c6
      have c6b1 : decide (t199.size < t198.size) = true := decide_eq_true (Int.ofNat_lt.mp c6)
      clear c6
      exact absurd ((Option.some.inj H).trans HT.out) (by simp)
    · rw [if_neg c6] at H
      have c6b0 : decide ((t199.size : Int) < (t198.size : Int)) = false := decide_eq_false c6
      have c6b1 : decide (t199.size < t198.size) = false := decide_eq_false (fun h => c6 (Int.ofNat_lt.mpr h))
      clear c6
      by_cases c7 : ((a0 == a1) != (t198.toList == t199.toList)) = true
      · rw [if_pos c7] at H
        have c7b0 : ((a0 == a1) != (t198.toList == t199.toList)) = true := c7
        (try (have c7b1 : decide ((a0 == a1) = (t198.toList == t199.toList)) = false := by simpa using c7))
        (try (have c7b2 : ((a0 == a1) == (t198.toList == t199.toList)) = false := by simpa using c7))
        (try (have c7b3 : ¬ ((a0 == a1) = (t198.toList == t199.toList)) := by simpa using c7))
        clear c7
        exact absurd ((Option.some.inj H).trans HT.out) (by simp)
      · rw [if_neg c7] at H
        have c7b0 : ((a0 == a1) != (t198.toList == t199.toList)) = false := by simpa using c7
        (try (have c7b1 : decide ((a0 == a1) = (t198.toList == t199.toList)) = true := by simpa using c7))
        (try (have c7b2 : ((a0 == a1) == (t198.toList == t199.toList)) = true := by simpa using c7))
        clear c7
        by_cases c8 : (t198.size : Int) ≥ (t199.size : Int)
        · rw [if_pos c8] at H
          have c8b0 : decide ((t199.size : Int) ≤ (t198.size : Int)) = true := decide_eq_true c8
          have c8b1 : decide (t199.size ≤ t198.size) = true := decide_eq_true (Int.ofNat_le.mp c8)
          clear c8
          replace H := Option.bind_eq_some_iff.mp H
          obtain ⟨t200, A90, H⟩ := H
          replace H : (some t200) = some r := H
          have A9 := Aside0.mk A90
          clear A90
          obtain rfl := Option.some.inj H
          go_enter Try.func7, Try.ntmps7
          go_wp2_with (first | ((with_reducible refine gate_callee (f := 10) rfl ?_); refine goesL_ (some 8) rfl rfl Try.func10 (by kernel_rfl) rfl #[.int .u64 a0] rfl (by (try simp only [List.map_toArray, List.map_cons, List.map_nil]); first | done | rfl | (simp only [List.length_drop, List.length_take]; rfl)) ?_; (with_reducible refine (varint_Put.calls k a0 t198 _ A3.out).mono ?_); rintro e w10 ⟨rfl, hb⟩; refine ⟨_, rfl, ?_⟩; have n0_ := Aside0.mk (below_step (by repeat (first | (with_reducible first | exact HB.out | apply below_alloc | apply pw_below_drewN | apply below_drew1) | exact HB.out)) hb); clear HB; have HB := n0_; clear n0_; (try clear hb); (try clear hb2); (try clear hk); (try clear hi)) | ((with_reducible refine gate_callee (f := 10) rfl ?_); refine goesL_ (some 10) rfl rfl Try.func10 (by kernel_rfl) rfl #[.int .u64 a1] rfl (by (try simp only [List.map_toArray, List.map_cons, List.map_nil]); first | done | rfl | (simp only [List.length_drop, List.length_take]; rfl)) ?_; (with_reducible refine (varint_Put.calls k a1 t199 _ A4.out).mono ?_); rintro e w11 ⟨rfl, hb⟩; refine ⟨_, rfl, ?_⟩; have n0_ := Aside0.mk (below_step (by repeat (first | (with_reducible first | exact HB.out | apply below_alloc | apply pw_below_drewN | apply below_drew1) | exact HB.out)) hb); clear HB; have HB := n0_; clear n0_; (try clear hb); (try clear hb2); (try clear hk); (try clear hi)) | (go_at_call 9; (with_reducible refine (rollcalllaw01_live.calls k  t200 _ A9.out).mono ?_); rintro e w12 ⟨rfl, hb⟩; have n0_ := Aside0.mk (below_step (by repeat (first | (with_reducible first | exact HB.out | apply below_alloc | apply pw_below_drewN | apply below_drew1) | exact HB.out)) hb); clear HB; have HB := n0_; clear n0_; (try clear hb); (try clear hb2); (try clear hk); (try clear hi)))
          go_ret
          exact ⟨by first | rfl | (simp [errW_none, errW_some] <;> rfl) | (simp [*, errW_none, errW_some] <;> rfl), by repeat (first | (with_reducible first | exact HB.out | apply below_alloc | apply pw_below_drewN | apply below_drew1) | exact HB.out)⟩
        · rw [if_neg c8] at H
          have c8b0 : decide ((t199.size : Int) ≤ (t198.size : Int)) = false := decide_eq_false c8
          have c8b1 : decide (t199.size ≤ t198.size) = false := decide_eq_false (fun h => c8 (Int.ofNat_le.mpr h))
          clear c8
          by_cases c13 : 0 ≤ (t198.size : Int)
          · rw [if_pos c13] at H
            have c13b0 := eq_true c13
            have c13b1 : decide (0 ≤ (t198.size : Int)) = true := decide_eq_true c13
            clear c13
            by_cases c14 : (t198.size : Int) ≤ (t199.size : Int)
            · rw [if_pos c14] at H
              have c14b0 := eq_true c14
              have c14b1 : decide ((t198.size : Int) ≤ (t199.size : Int)) = true := decide_eq_true c14
              clear c14
              by_cases c15 : (t199.extract 0 t198.size).toList = t198.toList
              · rw [if_pos c15] at H
                have c15b0 : ((t199.extract 0 t198.size).toList == t198.toList) = true := beq_iff_eq.mpr c15
                have c15b1 : ((t199.extract 0 t198.size).toList != t198.toList) = false := bne_eq_false_iff_eq.mpr c15
                clear c15
                exact absurd ((Option.some.inj H).trans HT.out) (by simp)
              · rw [if_neg c15] at H
                have c15b0 : ((t199.extract 0 t198.size).toList == t198.toList) = false := beq_eq_false_iff_ne.mpr c15
                have c15b1 : ((t199.extract 0 t198.size).toList != t198.toList) = true := bne_iff_ne.mpr c15
                replace H := Option.bind_eq_some_iff.mp H
                obtain ⟨t201, A160, H⟩ := H
                replace H : (some t201) = some r := H
                have A16 := Aside0.mk A160
                clear A160
                obtain rfl := Option.some.inj H
                go_enter Try.func7, Try.ntmps7
                go_wp2_with (first | ((with_reducible refine gate_callee (f := 10) rfl ?_); refine goesL_ (some 8) rfl rfl Try.func10 (by kernel_rfl) rfl #[.int .u64 a0] rfl (by (try simp only [List.map_toArray, List.map_cons, List.map_nil]); first | done | rfl | (simp only [List.length_drop, List.length_take]; rfl)) ?_; (with_reducible refine (varint_Put.calls k a0 t198 _ A3.out).mono ?_); rintro e w17 ⟨rfl, hb⟩; refine ⟨_, rfl, ?_⟩; have n0_ := Aside0.mk (below_step (by repeat (first | (with_reducible first | exact HB.out | apply below_alloc | apply pw_below_drewN | apply below_drew1) | exact HB.out)) hb); clear HB; have HB := n0_; clear n0_; (try clear hb); (try clear hb2); (try clear hk); (try clear hi)) | ((with_reducible refine gate_callee (f := 10) rfl ?_); refine goesL_ (some 10) rfl rfl Try.func10 (by kernel_rfl) rfl #[.int .u64 a1] rfl (by (try simp only [List.map_toArray, List.map_cons, List.map_nil]); first | done | rfl | (simp only [List.length_drop, List.length_take]; rfl)) ?_; (with_reducible refine (varint_Put.calls k a1 t199 _ A4.out).mono ?_); rintro e w18 ⟨rfl, hb⟩; refine ⟨_, rfl, ?_⟩; have n0_ := Aside0.mk (below_step (by repeat (first | (with_reducible first | exact HB.out | apply below_alloc | apply pw_below_drewN | apply below_drew1) | exact HB.out)) hb); clear HB; have HB := n0_; clear n0_; (try clear hb); (try clear hb2); (try clear hk); (try clear hi)) | (go_at_call 9; (with_reducible refine (rollcalllaw01_live.calls k  t201 _ A16.out).mono ?_); rintro e w19 ⟨rfl, hb⟩; have n0_ := Aside0.mk (below_step (by repeat (first | (with_reducible first | exact HB.out | apply below_alloc | apply pw_below_drewN | apply below_drew1) | exact HB.out)) hb); clear HB; have HB := n0_; clear n0_; (try clear hb); (try clear hb2); (try clear hk); (try clear hi)))
                go_ret
                exact ⟨by first | rfl | (simp [errW_none, errW_some] <;> rfl) | (simp [*, errW_none, errW_some] <;> rfl), by repeat (first | (with_reducible first | exact HB.out | apply below_alloc | apply pw_below_drewN | apply below_drew1) | exact HB.out)⟩
            · rw [if_neg c14] at H
              exact absurd H (by simp)
          · rw [if_neg c13] at H
            exact absurd H (by simp)
  · rw [if_neg c5] at H
    have c5b0 : decide (a0 < a1) = false := decide_eq_false c5
    clear c5
    by_cases c20 : ((a0 == a1) != (t198.toList == t199.toList)) = true
    · rw [if_pos c20] at H
      have c20b0 : ((a0 == a1) != (t198.toList == t199.toList)) = true := c20
      (try (have c20b1 : decide ((a0 == a1) = (t198.toList == t199.toList)) = false := by simpa using c20))
      (try (have c20b2 : ((a0 == a1) == (t198.toList == t199.toList)) = false := by simpa using c20))
      (try (have c20b3 : ¬ ((a0 == a1) = (t198.toList == t199.toList)) := by simpa using c20))
      clear c20
      exact absurd ((Option.some.inj H).trans HT.out) (by simp)
    · rw [if_neg c20] at H
      have c20b0 : ((a0 == a1) != (t198.toList == t199.toList)) = false := by simpa using c20
      (try (have c20b1 : decide ((a0 == a1) = (t198.toList == t199.toList)) = true := by simpa using c20))
      (try (have c20b2 : ((a0 == a1) == (t198.toList == t199.toList)) = true := by simpa using c20))
      clear c20
      by_cases c21 : (t198.size : Int) ≥ (t199.size : Int)
      · rw [if_pos c21] at H
        have c21b0 : decide ((t199.size : Int) ≤ (t198.size : Int)) = true := decide_eq_true c21
        have c21b1 : decide (t199.size ≤ t198.size) = true := decide_eq_true (Int.ofNat_le.mp c21)
        clear c21
        replace H := Option.bind_eq_some_iff.mp H
        obtain ⟨t202, A220, H⟩ := H
        replace H : (some t202) = some r := H
        have A22 := Aside0.mk A220
        clear A220
        obtain rfl := Option.some.inj H
        go_enter Try.func7, Try.ntmps7
        go_wp2_with (first | ((with_reducible refine gate_callee (f := 10) rfl ?_); refine goesL_ (some 8) rfl rfl Try.func10 (by kernel_rfl) rfl #[.int .u64 a0] rfl (by (try simp only [List.map_toArray, List.map_cons, List.map_nil]); first | done | rfl | (simp only [List.length_drop, List.length_take]; rfl)) ?_; (with_reducible refine (varint_Put.calls k a0 t198 _ A3.out).mono ?_); rintro e w23 ⟨rfl, hb⟩; refine ⟨_, rfl, ?_⟩; have n0_ := Aside0.mk (below_step (by repeat (first | (with_reducible first | exact HB.out | apply below_alloc | apply pw_below_drewN | apply below_drew1) | exact HB.out)) hb); clear HB; have HB := n0_; clear n0_; (try clear hb); (try clear hb2); (try clear hk); (try clear hi)) | ((with_reducible refine gate_callee (f := 10) rfl ?_); refine goesL_ (some 10) rfl rfl Try.func10 (by kernel_rfl) rfl #[.int .u64 a1] rfl (by (try simp only [List.map_toArray, List.map_cons, List.map_nil]); first | done | rfl | (simp only [List.length_drop, List.length_take]; rfl)) ?_; (with_reducible refine (varint_Put.calls k a1 t199 _ A4.out).mono ?_); rintro e w24 ⟨rfl, hb⟩; refine ⟨_, rfl, ?_⟩; have n0_ := Aside0.mk (below_step (by repeat (first | (with_reducible first | exact HB.out | apply below_alloc | apply pw_below_drewN | apply below_drew1) | exact HB.out)) hb); clear HB; have HB := n0_; clear n0_; (try clear hb); (try clear hb2); (try clear hk); (try clear hi)) | (go_at_call 9; (with_reducible refine (rollcalllaw01_live.calls k  t202 _ A22.out).mono ?_); rintro e w25 ⟨rfl, hb⟩; have n0_ := Aside0.mk (below_step (by repeat (first | (with_reducible first | exact HB.out | apply below_alloc | apply pw_below_drewN | apply below_drew1) | exact HB.out)) hb); clear HB; have HB := n0_; clear n0_; (try clear hb); (try clear hb2); (try clear hk); (try clear hi)))
        go_ret
        exact ⟨by first | rfl | (simp [errW_none, errW_some] <;> rfl) | (simp [*, errW_none, errW_some] <;> rfl), by repeat (first | (with_reducible first | exact HB.out | apply below_alloc | apply pw_below_drewN | apply below_drew1) | exact HB.out)⟩
      · rw [if_neg c21] at H
        have c21b0 : decide ((t199.size : Int) ≤ (t198.size : Int)) = false := decide_eq_false c21
        have c21b1 : decide (t199.size ≤ t198.size) = false := decide_eq_false (fun h => c21 (Int.ofNat_le.mpr h))
        clear c21
        by_cases c26 : 0 ≤ (t198.size : Int)
        · rw [if_pos c26] at H
          have c26b0 := eq_true c26
          have c26b1 : decide (0 ≤ (t198.size : Int)) = true := decide_eq_true c26
          clear c26
          by_cases c27 : (t198.size : Int) ≤ (t199.size : Int)
          · rw [if_pos c27] at H
            have c27b0 := eq_true c27
            have c27b1 : decide ((t198.size : Int) ≤ (t199.size : Int)) = true := decide_eq_true c27
            clear c27
            by_cases c28 : (t199.extract 0 t198.size).toList = t198.toList
            · rw [if_pos c28] at H
              have c28b0 : ((t199.extract 0 t198.size).toList == t198.toList) = true := beq_iff_eq.mpr c28
              have c28b1 : ((t199.extract 0 t198.size).toList != t198.toList) = false := bne_eq_false_iff_eq.mpr c28
              clear c28
              exact absurd ((Option.some.inj H).trans HT.out) (by simp)
            · rw [if_neg c28] at H
              have c28b0 : ((t199.extract 0 t198.size).toList == t198.toList) = false := beq_eq_false_iff_ne.mpr c28
              have c28b1 : ((t199.extract 0 t198.size).toList != t198.toList) = true := bne_iff_ne.mpr c28
              replace H := Option.bind_eq_some_iff.mp H
              obtain ⟨t203, A290, H⟩ := H
              replace H : (some t203) = some r := H
              have A29 := Aside0.mk A290
              clear A290
              obtain rfl := Option.some.inj H
              go_enter Try.func7, Try.ntmps7
              go_wp2_with (first | ((with_reducible refine gate_callee (f := 10) rfl ?_); refine goesL_ (some 8) rfl rfl Try.func10 (by kernel_rfl) rfl #[.int .u64 a0] rfl (by (try simp only [List.map_toArray, List.map_cons, List.map_nil]); first | done | rfl | (simp only [List.length_drop, List.length_take]; rfl)) ?_; (with_reducible refine (varint_Put.calls k a0 t198 _ A3.out).mono ?_); rintro e w30 ⟨rfl, hb⟩; refine ⟨_, rfl, ?_⟩; have n0_ := Aside0.mk (below_step (by repeat (first | (with_reducible first | exact HB.out | apply below_alloc | apply pw_below_drewN | apply below_drew1) | exact HB.out)) hb); clear HB; have HB := n0_; clear n0_; (try clear hb); (try clear hb2); (try clear hk); (try clear hi)) | ((with_reducible refine gate_callee (f := 10) rfl ?_); refine goesL_ (some 10) rfl rfl Try.func10 (by kernel_rfl) rfl #[.int .u64 a1] rfl (by (try simp only [List.map_toArray, List.map_cons, List.map_nil]); first | done | rfl | (simp only [List.length_drop, List.length_take]; rfl)) ?_; (with_reducible refine (varint_Put.calls k a1 t199 _ A4.out).mono ?_); rintro e w31 ⟨rfl, hb⟩; refine ⟨_, rfl, ?_⟩; have n0_ := Aside0.mk (below_step (by repeat (first | (with_reducible first | exact HB.out | apply below_alloc | apply pw_below_drewN | apply below_drew1) | exact HB.out)) hb); clear HB; have HB := n0_; clear n0_; (try clear hb); (try clear hb2); (try clear hk); (try clear hi)) | (go_at_call 9; (with_reducible refine (rollcalllaw01_live.calls k  t203 _ A29.out).mono ?_); rintro e w32 ⟨rfl, hb⟩; have n0_ := Aside0.mk (below_step (by repeat (first | (with_reducible first | exact HB.out | apply below_alloc | apply pw_below_drewN | apply below_drew1) | exact HB.out)) hb); clear HB; have HB := n0_; clear n0_; (try clear hb); (try clear hb2); (try clear hk); (try clear hi)))
              go_ret
              exact ⟨by first | rfl | (simp [errW_none, errW_some] <;> rfl) | (simp [*, errW_none, errW_some] <;> rfl), by repeat (first | (with_reducible first | exact HB.out | apply below_alloc | apply pw_below_drewN | apply below_drew1) | exact HB.out)⟩
          · rw [if_neg c27] at H
            exact absurd H (by simp)
        · rw [if_neg c26] at H
          exact absurd H (by simp)

/-- THE ONE PURE STATEMENT of rollcalllaw01_VarintOrder: yours. -/
def rollcalllaw01_VarintOrder.Pure : Prop := ∀ (a0 : Int) (a1 : Int), (Lit.int .u64 a0).wf = true → (Lit.int .u64 a1).wf = true → ∃ k, rollcalllaw01_VarintOrder.f k a0 a1 = some true
theorem rollcalllaw01_VarintOrder.walk (P : rollcalllaw01_VarintOrder.Pure) (a0 : Int) (a1 : Int) (w : World) (w0 : (Lit.int .u64 a0).wf = true) (w1 : (Lit.int .u64 a1).wf = true) :
    Calls Try.prog 7 #[.int .u64 a0, .int .u64 a1] w fun e w' => e = .returned (.bool true) ∧ Below w.heap.size w w' := by
  obtain ⟨k, h⟩ := P a0 a1 w0 w1
  refine (rollcalllaw01_VarintOrder.calls k a0 a1 true rfl w h).mono ?_
  rintro e w' ⟨rfl, hd⟩
  exact ⟨rfl, hd⟩

/-! ### rollcalllaw01_VarintLists: function 8 -/
mutual
def rollcalllaw01_VarintLists.l0 : Nat → List Int → ByteArray → Int → Option (Bool)
  | 0, _, _, _ => none
  | k + 1, x0, x3, x4 => if x4 < (x0.length : Int) then (if 0 ≤ x4 then ((varint_Put.f k (rd x0 x4)).bind fun t206 => (if x3.size + t206.size ≤ 9223372036854775807 then (rollcalllaw01_VarintLists.l0 k x0 (x3 ++ t206) (wrap64 (x4 + 1))) else (none))) else (none)) else (rollcalllaw01_VarintLists.l1 k x0 x3 0 0)
def rollcalllaw01_VarintLists.l1 : Nat → List Int → ByteArray → Int → Int → Option (Bool)
  | 0, _, _, _, _ => none
  | k + 1, x0, x3, x5, x6 => if x6 < (x0.length : Int) then ((varint_Get.f x3 x5).bind fun bt211 => (if bt211.2.2 = 0 then (if 0 ≤ x6 then (if bt211.1 = (rd x0 x6) then ((varint_Size.f k bt211.1).bind fun t215 => (if (wrap64 (bt211.2.1 - x5)) = t215 then (if bt211.2.1 > (x3.size : Int) then (some false) else (rollcalllaw01_VarintLists.l1 k x0 x3 bt211.2.1 (wrap64 (x6 + 1)))) else (some false))) else (some false)) else (none)) else (some false))) else ((varint_Get.f x3 x5).bind fun bt207 => (if x5 = (x3.size : Int) then (if bt207.2.2 = 2 then ((rollcalllaw01_live.f k).bind fun t210 => (some t210)) else (some false)) else (some false)))
end
def rollcalllaw01_VarintLists.f (k : Nat) (l0 : List Int) : Option (Bool) := if (l0.length : Int) > 50 then ((rollcalllaw01_live.f k).bind fun t204 => (some t204)) else (rollcalllaw01_VarintLists.l0 k l0 (⟨#[]⟩ : ByteArray) 0)
theorem rollcalllaw01_VarintLists.mono_l : ∀ k, (∀ y0 y1 y2, LeO (rollcalllaw01_VarintLists.l0 k y0 y1 y2) (rollcalllaw01_VarintLists.l0 (k + 1) y0 y1 y2)) ∧ (∀ y0 y1 y2 y3, LeO (rollcalllaw01_VarintLists.l1 k y0 y1 y2 y3) (rollcalllaw01_VarintLists.l1 (k + 1) y0 y1 y2 y3))
  | 0 => ⟨fun _ _ _ r h => by simp [rollcalllaw01_VarintLists.l0] at h, fun _ _ _ _ r h => by simp [rollcalllaw01_VarintLists.l1] at h⟩
  | k + 1 => by
    obtain ⟨ih0, ih1⟩ := rollcalllaw01_VarintLists.mono_l k
    refine ⟨?_, ?_⟩
    · intro y0 y1 y2
      unfold rollcalllaw01_VarintLists.l0
      repeat' first
      | (with_reducible exact ih0 _ _ _)
      | (with_reducible exact ih1 _ _ _ _)
      | (with_reducible exact rollcalllaw01_live.mono _)
      | (with_reducible exact varint_Put.mono _ _)
      | (with_reducible exact varint_Size.mono _ _)
      | (with_reducible exact LeO.refl _)
      | (with_reducible exact LeO.none _)
      | (with_reducible refine LeO.ite ?_ ?_)
      | (with_reducible refine LeO.bind ?_ (fun _ => ?_))
      | exact ih0 _ _ _
      | exact ih1 _ _ _ _
      | exact rollcalllaw01_live.mono _
      | exact varint_Put.mono _ _
      | exact varint_Size.mono _ _
      | exact LeO.none _
      | refine LeO.ite ?_ ?_
      | refine LeO.bind ?_ (fun _ => ?_)
    · intro y0 y1 y2 y3
      unfold rollcalllaw01_VarintLists.l1
      repeat' first
      | (with_reducible exact ih0 _ _ _)
      | (with_reducible exact ih1 _ _ _ _)
      | (with_reducible exact rollcalllaw01_live.mono _)
      | (with_reducible exact varint_Put.mono _ _)
      | (with_reducible exact varint_Size.mono _ _)
      | (with_reducible exact LeO.refl _)
      | (with_reducible exact LeO.none _)
      | (with_reducible refine LeO.ite ?_ ?_)
      | (with_reducible refine LeO.bind ?_ (fun _ => ?_))
      | exact ih0 _ _ _
      | exact ih1 _ _ _ _
      | exact rollcalllaw01_live.mono _
      | exact varint_Put.mono _ _
      | exact varint_Size.mono _ _
      | exact LeO.none _
      | refine LeO.ite ?_ ?_
      | refine LeO.bind ?_ (fun _ => ?_)
theorem rollcalllaw01_VarintLists.mono : ∀ a0 k, LeO (rollcalllaw01_VarintLists.f k a0) (rollcalllaw01_VarintLists.f (k + 1) a0) := by
  intro a0 k
  obtain ⟨ih0, ih1⟩ := rollcalllaw01_VarintLists.mono_l k
  unfold rollcalllaw01_VarintLists.f
  repeat' first
      | (with_reducible exact ih0 _ _ _)
      | (with_reducible exact ih1 _ _ _ _)
      | (with_reducible exact rollcalllaw01_live.mono _)
      | (with_reducible exact varint_Put.mono _ _)
      | (with_reducible exact varint_Size.mono _ _)
      | (with_reducible exact LeO.refl _)
      | (with_reducible exact LeO.none _)
      | (with_reducible refine LeO.ite ?_ ?_)
      | (with_reducible refine LeO.bind ?_ (fun _ => ?_))
      | exact ih0 _ _ _
      | exact ih1 _ _ _ _
      | exact rollcalllaw01_live.mono _
      | exact varint_Put.mono _ _
      | exact varint_Size.mono _ _
      | exact LeO.none _
      | refine LeO.ite ?_ ?_
      | refine LeO.bind ?_ (fun _ => ?_)
set_option maxHeartbeats 8000000 in
set_option maxRecDepth 100000 in
theorem rollcalllaw01_VarintLists.calls (k : Nat) (A0 : Option Addr) (c0 : Nat) (l0 : List Int) (r : Bool) (hT_ : r = true) (w : World) (hr0 : Kd.C (Kd.int .u64) w A0 l0.length l0) (hc0 : l0.length ≤ c0) (h : rollcalllaw01_VarintLists.f k l0 = some r) :
    Calls Try.prog 8 #[.slice A0 l0.length c0] w fun e w' => e = .returned (.bool r) ∧ Below w.heap.size w w' := by
  have HT := Aside0.mk hT_
  clear hT_
  have HR0 := Aside0.mk hr0
  have HC0 := Aside0.mk hc0
  clear hr0 hc0
  have HB := Aside0.mk (Below.refl w.heap.size w)
  have H : (if (l0.length : Int) > 50 then ((rollcalllaw01_live.f k).bind fun t204 => (some t204)) else (rollcalllaw01_VarintLists.l0 k l0 (⟨#[]⟩ : ByteArray) 0)) = some r := h
  clear h
  by_cases c2 : (l0.length : Int) > 50
  · rw [if_pos c2] at H
    have c2b0 : decide (50 < (l0.length : Int)) = true := decide_eq_true c2
    have c2b1 : decide (50 < l0.length) = true := decide_eq_true (by omega)
    clear c2
    replace H := Option.bind_eq_some_iff.mp H
    obtain ⟨t204, A30, H⟩ := H
    replace H : (some t204) = some r := H
    have A3 := Aside0.mk A30
    clear A30
    obtain rfl := Option.some.inj H
    go_enter Try.func8, Try.ntmps8
    go_wp2_with (first | ((with_reducible refine gate_callee (f := 9) rfl ?_); refine goesL_ (some 16) rfl rfl Try.func9 (by kernel_rfl) rfl #[] rfl (by (try simp only [List.map_toArray, List.map_cons, List.map_nil]); first | done | rfl | (simp only [List.length_drop, List.length_take]; rfl)) ?_; (with_reducible refine (rollcalllaw01_live.calls k  t204 _ A3.out).mono ?_); rintro e w4 ⟨rfl, hb⟩; refine ⟨_, rfl, ?_⟩; have n0_ := Aside0.mk (below_step (by repeat (first | (with_reducible first | exact HB.out | apply below_alloc | apply pw_below_drewN | apply below_drew1) | exact HB.out)) hb); clear HB; have HB := n0_; clear n0_; (try clear hb); (try clear hb2); (try clear hk); (try clear hi)))
    go_ret
    exact ⟨by first | rfl | (simp [errW_none, errW_some] <;> rfl) | (simp [*, errW_none, errW_some] <;> rfl), by repeat (first | (with_reducible first | exact HB.out | apply below_alloc | apply pw_below_drewN | apply below_drew1) | exact HB.out)⟩
  · rw [if_neg c2] at H
    have c2b0 : decide (50 < (l0.length : Int)) = false := decide_eq_false c2
    have c2b1 : decide (50 < l0.length) = false := decide_eq_false (by omega)
    clear c2
    have H' := Aside0.mk H
    clear H
    go_enter Try.func8, Try.ntmps8
    go_wp2
    go_loopg [3, 4] k (fun kq v3 v4 w' => ∃ (x3_1 : ByteArray) (x4_1 : Int), v3 = .string x3_1 ∧ v4 = .int .i64 x4_1 ∧ Aside0 (rollcalllaw01_VarintLists.l0 kq l0 x3_1 x4_1 = some r) ∧ Aside0 (kq ≤ k) ∧ Aside0 (Below w.heap.size w w'))
    case atStart => exact ⟨((⟨#[]⟩ : ByteArray)), (0), (by first | rfl | (simp; done) | (simp [*]; done)), (by first | rfl | (simp; done) | (simp [*]; done)), H', ⟨Nat.le_refl _⟩, ⟨by repeat (first | (with_reducible first | exact HB.out | apply below_alloc | apply pw_below_drewN | apply below_drew1) | exact HB.out)⟩⟩
    case round =>
      clear H'
      try clear c2
      try clear c2b0
      try clear c2b1
      try clear p2
      obtain ⟨x3_1, x4_1, rfl, rfl, HA, HK1, HB⟩ := hrel
      cases gk with
      | zero => exact absurd HA.out (by simp [rollcalllaw01_VarintLists.l0])
      | succ k1 =>
        have H := HA.out
        clear HA
        simp only [rollcalllaw01_VarintLists.l0] at H
        by_cases c5 : x4_1 < (l0.length : Int)
        · rw [if_pos c5] at H
          have c5b0 : decide (x4_1 < (l0.length : Int)) = true := decide_eq_true c5
          clear c5
          by_cases c6 : 0 ≤ x4_1
          · rw [if_pos c6] at H
            have c6b0 : decide (0 ≤ x4_1) = true := decide_eq_true c6
            clear c6
            replace H := Option.bind_eq_some_iff.mp H
            obtain ⟨t206, A70, H⟩ := H
            replace H : (if x3_1.size + t206.size ≤ 9223372036854775807 then (rollcalllaw01_VarintLists.l0 k1 l0 (x3_1 ++ t206) (wrap64 (x4_1 + 1))) else (none)) = some r := H
            have A7 := Aside0.mk A70
            clear A70
            by_cases c8 : x3_1.size + t206.size ≤ 9223372036854775807
            · rw [if_pos c8] at H
              have c8b0 := eq_true c8
              have c8b1 : decide (x3_1.size + t206.size ≤ 9223372036854775807) = true := decide_eq_true c8
              try have c8b2 : (9223372036854775807 < x3_1.size + t206.size) = False := eq_false (Nat.not_lt.2 c8)
              (try (have c8b3 := c8b0; simp only [ByteArray.size_append] at c8b3))
              (try (have c8b4 := c8b2; simp only [ByteArray.size_append] at c8b4))
              clear c8
              have H' := Aside0.mk H
              clear H
              have p205 : 0 ≤ (x4_1 : Int) := of_decide_eq_true (by first | (with_reducible assumption) | assumption)
              have q205 : x4_1 < (l0.length : Int) := of_decide_eq_true (by first | (with_reducible assumption) | assumption)
              obtain ⟨ad205, e205, hx205_0⟩ := Kd.at_int HR0.out x4_1 p205 q205
              cases e205
              replace hx205_0 := (HB.out.cell (World.block_lt_of_cell? w _ hx205_0)).trans hx205_0
              replace p205 := eq_true p205
              replace q205 := eq_true q205
              go_wp2_with (first | ((with_reducible refine gate_callee (f := 10) rfl ?_); refine goesL_ (some 28) rfl rfl Try.func10 (by kernel_rfl) rfl #[.int .u64 (rd l0 x4_1)] rfl (by (try simp only [List.map_toArray, List.map_cons, List.map_nil]); first | done | rfl | (simp only [List.length_drop, List.length_take]; rfl)) ?_; (with_reducible refine (varint_Put.calls k1 (rd l0 x4_1) t206 _ A7.out).mono ?_); rintro e w9 ⟨rfl, hb⟩; refine ⟨_, rfl, ?_⟩; have n0_ := Aside0.mk (below_step (by repeat (first | (with_reducible first | exact HB.out | apply below_alloc | apply pw_below_drewN | apply below_drew1) | exact HB.out)) hb); clear HB; have HB := n0_; clear n0_; (try clear hb); (try clear hb2); (try clear hk); (try clear hi)))
              go_roundg k1
              case measure => have := HK1.out; omega
              case rel => exact ⟨(x3_1 ++ t206), (wrap64 (x4_1 + 1)), (by first | rfl | (simp; done) | (simp [*]; done)), (by first | rfl | (simp; done) | (simp [*]; done)), H', ⟨by have := HK1.out; omega⟩, ⟨by repeat (first | (with_reducible first | exact HB.out | apply below_alloc | apply pw_below_drewN | apply below_drew1) | exact HB.out)⟩⟩
            · rw [if_neg c8] at H
              exact absurd H (by simp)
          · rw [if_neg c6] at H
            exact absurd H (by simp)
        · rw [if_neg c5] at H
          have c5b0 : decide (x4_1 < (l0.length : Int)) = false := decide_eq_false c5
          clear c5
          have H' := Aside0.mk H
          clear H
          go_wp2
          go_loopg [5, 6] k1 (fun kq v5 v6 w' => ∃ (x5_2 : Int) (x6_2 : Int), v5 = .int .i64 x5_2 ∧ v6 = .int .i64 x6_2 ∧ Aside0 (rollcalllaw01_VarintLists.l1 kq l0 x3_1 x5_2 x6_2 = some r) ∧ Aside0 (kq ≤ k1) ∧ Aside0 (Below w.heap.size w w'))
          case atStart => exact ⟨(0), (0), (by first | rfl | (simp; done) | (simp [*]; done)), (by first | rfl | (simp; done) | (simp [*]; done)), H', ⟨Nat.le_refl _⟩, ⟨by repeat (first | (with_reducible first | exact HB.out | apply below_alloc | apply pw_below_drewN | apply below_drew1) | exact HB.out)⟩⟩
          case round =>
            clear H'
            try clear c1
            try clear c2
            try clear c2b0
            try clear c2b1
            try clear p2
            try clear q2
            try clear hx2
            try clear c5
            try clear c5b0
            try clear c6
            try clear c6b0
            try clear p6
            try clear c8
            try clear c8b0
            try clear c8b1
            try clear c8b2
            try clear c9
            try clear hx205_0
            try clear p2
            try clear p205
            try clear q205
            obtain ⟨x5_2, x6_2, rfl, rfl, HA, HK2, HB⟩ := hrel
            cases gk with
            | zero => exact absurd HA.out (by simp [rollcalllaw01_VarintLists.l1])
            | succ k2 =>
              have H := HA.out
              clear HA
              simp only [rollcalllaw01_VarintLists.l1] at H
              by_cases c10 : x6_2 < (l0.length : Int)
              · rw [if_pos c10] at H
                have c10b0 : decide (x6_2 < (l0.length : Int)) = true := decide_eq_true c10
                clear c10
                replace H := Option.bind_eq_some_iff.mp H
                obtain ⟨⟨t211, t212, t213⟩, A110, H⟩ := H
                replace H : (if t213 = 0 then (if 0 ≤ x6_2 then (if t211 = (rd l0 x6_2) then ((varint_Size.f k2 t211).bind fun t215 => (if (wrap64 (t212 - x5_2)) = t215 then (if t212 > (x3_1.size : Int) then (some false) else (rollcalllaw01_VarintLists.l1 k2 l0 x3_1 t212 (wrap64 (x6_2 + 1)))) else (some false))) else (some false)) else (none)) else (some false)) = some r := H
                have A11 := Aside0.mk A110
                clear A110
                by_cases c12 : t213 = 0
                · rw [if_pos c12] at H
                  have c12b0 : (t213 == 0) = true := beq_iff_eq.mpr c12
                  have c12b1 : (t213 != 0) = false := bne_eq_false_iff_eq.mpr c12
                  clear c12
                  by_cases c13 : 0 ≤ x6_2
                  · rw [if_pos c13] at H
                    have c13b0 : decide (0 ≤ x6_2) = true := decide_eq_true c13
                    clear c13
                    by_cases c14 : t211 = (rd l0 x6_2)
                    · rw [if_pos c14] at H
                      have c14b0 : (t211 == (rd l0 x6_2)) = true := beq_iff_eq.mpr c14
                      have c14b1 : (t211 != (rd l0 x6_2)) = false := bne_eq_false_iff_eq.mpr c14
                      clear c14
                      replace H := Option.bind_eq_some_iff.mp H
                      obtain ⟨t215, A150, H⟩ := H
                      replace H : (if (wrap64 (t212 - x5_2)) = t215 then (if t212 > (x3_1.size : Int) then (some false) else (rollcalllaw01_VarintLists.l1 k2 l0 x3_1 t212 (wrap64 (x6_2 + 1)))) else (some false)) = some r := H
                      have A15 := Aside0.mk A150
                      clear A150
                      by_cases c16 : (wrap64 (t212 - x5_2)) = t215
                      · rw [if_pos c16] at H
                        have c16b0 : ((wrap64 (t212 - x5_2)) == t215) = true := beq_iff_eq.mpr c16
                        have c16b1 : ((wrap64 (t212 - x5_2)) != t215) = false := bne_eq_false_iff_eq.mpr c16
                        clear c16
                        by_cases c17 : t212 > (x3_1.size : Int)
                        · rw [if_pos c17] at H
                          have c17b0 : decide ((x3_1.size : Int) < t212) = true := decide_eq_true c17
                          clear c17
                          exact absurd ((Option.some.inj H).trans HT.out) (by simp)
                        · rw [if_neg c17] at H
                          have c17b0 : decide ((x3_1.size : Int) < t212) = false := decide_eq_false c17
                          clear c17
                          have H' := Aside0.mk H
                          clear H
                          go_wp2_with (first | ((with_reducible refine gate_callee (f := 16) rfl ?_); refine goesL_ (some 39) rfl rfl Try.func16 (by kernel_rfl) rfl #[.string x3_1, .int .i64 x5_2] rfl (by (try simp only [List.map_toArray, List.map_cons, List.map_nil]); first | done | rfl | (simp only [List.length_drop, List.length_take]; rfl)) ?_; (with_reducible refine (varint_Get.calls x3_1 x5_2 t211 t212 t213 _ A11.out).mono ?_); rintro e w' ⟨rfl, ⟨nd, rfl⟩⟩; refine ⟨_, rfl, ?_⟩; have p214 : 0 ≤ (x6_2 : Int) := of_decide_eq_true (by first | (with_reducible assumption) | assumption); have q214 : x6_2 < (l0.length : Int) := of_decide_eq_true (by first | (with_reducible assumption) | assumption); obtain ⟨ad214, e214, hx214_0⟩ := Kd.at_int HR0.out x6_2 p214 q214; cases e214; replace hx214_0 := (HB.out.cell (World.block_lt_of_cell? w _ hx214_0)).trans hx214_0; replace p214 := eq_true p214; replace q214 := eq_true q214) | (go_at_call 12; (with_reducible refine (varint_Size.calls k2 t211 t215 _ A15.out).mono ?_); rintro e w18 ⟨rfl, hb⟩; have n0_ := Aside0.mk (below_step (by repeat (first | (with_reducible first | exact HB.out | apply below_alloc | apply pw_below_drewN | apply below_drew1) | exact HB.out)) hb); clear HB; have HB := n0_; clear n0_; (try clear hb); (try clear hb2); (try clear hk); (try clear hi)))
                          go_roundg k2
                          case measure => have := HK1.out; have := HK2.out; omega
                          case rel => exact ⟨(t212), (wrap64 (x6_2 + 1)), (by first | rfl | (simp; done) | (simp [*]; done)), (by first | rfl | (simp; done) | (simp [*]; done)), H', ⟨by have := HK1.out; have := HK2.out; omega⟩, ⟨by repeat (first | (with_reducible first | exact HB.out | apply below_alloc | apply pw_below_drewN | apply below_drew1) | exact HB.out)⟩⟩
                      · rw [if_neg c16] at H
                        have c16b0 : ((wrap64 (t212 - x5_2)) == t215) = false := beq_eq_false_iff_ne.mpr c16
                        have c16b1 : ((wrap64 (t212 - x5_2)) != t215) = true := bne_iff_ne.mpr c16
                        exact absurd ((Option.some.inj H).trans HT.out) (by simp)
                    · rw [if_neg c14] at H
                      have c14b0 : (t211 == (rd l0 x6_2)) = false := beq_eq_false_iff_ne.mpr c14
                      have c14b1 : (t211 != (rd l0 x6_2)) = true := bne_iff_ne.mpr c14
                      exact absurd ((Option.some.inj H).trans HT.out) (by simp)
                  · rw [if_neg c13] at H
                    exact absurd H (by simp)
                · rw [if_neg c12] at H
                  have c12b0 : (t213 == 0) = false := beq_eq_false_iff_ne.mpr c12
                  have c12b1 : (t213 != 0) = true := bne_iff_ne.mpr c12
                  exact absurd ((Option.some.inj H).trans HT.out) (by simp)
              · rw [if_neg c10] at H
                have c10b0 : decide (x6_2 < (l0.length : Int)) = false := decide_eq_false c10
                clear c10
                replace H := Option.bind_eq_some_iff.mp H
                obtain ⟨⟨t207, t208, t209⟩, A190, H⟩ := H
                replace H : (if x5_2 = (x3_1.size : Int) then (if t209 = 2 then ((rollcalllaw01_live.f k2).bind fun t210 => (some t210)) else (some false)) else (some false)) = some r := H
                have A19 := Aside0.mk A190
                clear A190
                by_cases c20 : x5_2 = (x3_1.size : Int)
                · rw [if_pos c20] at H
                  have c20b0 : (x5_2 == (x3_1.size : Int)) = true := beq_iff_eq.mpr c20
                  have c20b1 : (x5_2 != (x3_1.size : Int)) = false := bne_eq_false_iff_eq.mpr c20
                  clear c20
                  by_cases c21 : t209 = 2
                  · rw [if_pos c21] at H
                    have c21b0 : (t209 == 2) = true := beq_iff_eq.mpr c21
                    have c21b1 : (t209 != 2) = false := bne_eq_false_iff_eq.mpr c21
                    clear c21
                    replace H := Option.bind_eq_some_iff.mp H
                    obtain ⟨t210, A220, H⟩ := H
                    replace H : (some t210) = some r := H
                    have A22 := Aside0.mk A220
                    clear A220
                    obtain rfl := Option.some.inj H
                    go_wp2_with (first | ((with_reducible refine gate_callee (f := 16) rfl ?_); refine goesL_ (some 71) rfl rfl Try.func16 (by kernel_rfl) rfl #[.string x3_1, .int .i64 x5_2] rfl (by (try simp only [List.map_toArray, List.map_cons, List.map_nil]); first | done | rfl | (simp only [List.length_drop, List.length_take]; rfl)) ?_; (with_reducible refine (varint_Get.calls x3_1 x5_2 t207 t208 t209 _ A19.out).mono ?_); rintro e w' ⟨rfl, ⟨nd, rfl⟩⟩; refine ⟨_, rfl, ?_⟩) | (go_at_call 9; (with_reducible refine (rollcalllaw01_live.calls k2  t210 _ A22.out).mono ?_); rintro e w23 ⟨rfl, hb⟩; have n0_ := Aside0.mk (below_step (by repeat (first | (with_reducible first | exact HB.out | apply below_alloc | apply pw_below_drewN | apply below_drew1) | exact HB.out)) hb); clear HB; have HB := n0_; clear n0_; (try clear hb); (try clear hb2); (try clear hk); (try clear hi)))
                    go_ret
                    exact ⟨by first | rfl | (simp [errW_none, errW_some] <;> rfl) | (simp [*, errW_none, errW_some] <;> rfl), by repeat (first | (with_reducible first | exact HB.out | apply below_alloc | apply pw_below_drewN | apply below_drew1) | exact HB.out)⟩
                  · rw [if_neg c21] at H
                    have c21b0 : (t209 == 2) = false := beq_eq_false_iff_ne.mpr c21
                    have c21b1 : (t209 != 2) = true := bne_iff_ne.mpr c21
                    exact absurd ((Option.some.inj H).trans HT.out) (by simp)
                · rw [if_neg c20] at H
                  have c20b0 : (x5_2 == (x3_1.size : Int)) = false := beq_eq_false_iff_ne.mpr c20
                  have c20b1 : (x5_2 != (x3_1.size : Int)) = true := bne_iff_ne.mpr c20
                  exact absurd ((Option.some.inj H).trans HT.out) (by simp)

/-- THE ONE PURE STATEMENT of rollcalllaw01_VarintLists: yours. -/
def rollcalllaw01_VarintLists.Pure : Prop := ∀ (l0 : List Int), l0.length ≤ maxLen → l0.length * 8 ≤ 140737488351232 → (∀ x ∈ l0, (Lit.int .u64 x).wf = true) → ∃ k, rollcalllaw01_VarintLists.f k l0 = some true
theorem rollcalllaw01_VarintLists.walk (P : rollcalllaw01_VarintLists.Pure) (a0 : Option Addr) (len0 cap0 : Nat) (z0 : List Int) (w : World) (w0 : (a0 = none ∧ len0 = 0 ∧ cap0 = 0 ∧ z0 = []) ∨ ∃ x, a0 = some x ∧ len0 ≤ cap0 ∧ cap0 ≤ maxLen ∧ z0.length = cap0 ∧ (∀ i, i < z0.length → w.cell? (x.add i) = some (.int .u64 (z0.getD i 0))) ∧ ∀ n ∈ z0, (Lit.int .u64 n).wf = true) (y0 : len0 * 8 ≤ 140737488351232) :
    Calls Try.prog 8 #[.slice a0 len0 cap0] w fun e w' => e = .returned (.bool true) ∧ Below w.heap.size w w' := by
  obtain ⟨l0, rfl, hr0, hm0, hw0, hc0⟩ := ReadsInt.ofRowC w0
  obtain ⟨k, h⟩ := P l0 hm0 y0 hw0
  refine (rollcalllaw01_VarintLists.calls k _ _ l0 true rfl w (Kd.C_of_reads (d := (0 : Int)) (h1 := fun _ => rfl) hr0) hc0 h).mono ?_
  rintro e w' ⟨rfl, hd⟩
  exact ⟨rfl, hd⟩

end Go.Proofs.Ytijlneodilakfaa.PA
