-- Written by a program of this session (wip/tools/xprint.py), which drives the kit's print.
import Derived.Test.YtijlneodilakfaaPAx0
import Derived.Test.YtijlneodilakfaaPAx1
namespace Go.Proofs.Ytijlneodilakfaa.PA
open Go.RowKit Go.Proofs.YtijlneodilakfaaW.PrintWords Go.Proofs.YtijlneodilakfaaW.PrintLast Go.Proofs.YtijlneodilakfaaW.PrintMore
attribute [local go_sem] max2_int min2_int max_two min_two max_three min_three max_four min_four   -- for this text's walks alone
set_option linter.unusedVariables false
set_option linter.unusedSimpArgs false

/-! ### rollcalllaw01_VarintTexts: function 6 -/
mutual
def rollcalllaw01_VarintTexts.l0 : Nat → List ByteArray → Int → ByteArray → Int → Option (Bool)
  | 0, _, _, _, _ => none
  | k + 1, x0, x1, x5, x6 => if x6 < (x0.length : Int) then (if 0 ≤ x6 then (if ((rdOf ByteArray.empty x0 x6).size : Int) > 300 then ((rollcalllaw01_live.f k).bind fun t187 => (some t187)) else ((varint_Text.f k (rdOf ByteArray.empty x0 x6)).bind fun t189 => (if x5.size + t189.size ≤ 9223372036854775807 then (rollcalllaw01_VarintTexts.l0 k x0 x1 (x5 ++ t189) (wrap64 (x6 + 1))) else (none)))) else (none)) else (rollcalllaw01_VarintTexts.l1 k x0 x1 x5 0 0)
def rollcalllaw01_VarintTexts.l1 : Nat → List ByteArray → Int → ByteArray → Int → Int → Option (Bool)
  | 0, _, _, _, _, _ => none
  | k + 1, x0, x1, x5, x7, x8 => if x8 < (x0.length : Int) then (if x8 > 0 then (rollcalllaw01_VarintTexts.j2 k x0 x1 x5 x7 x8 (x7 == 0)) else (rollcalllaw01_VarintTexts.j2 k x0 x1 x5 x7 x8 false)) else (if x7 = (x5.size : Int) then ((rollcalllaw01_live.f k).bind fun t190 => (some t190)) else (some false))
def rollcalllaw01_VarintTexts.j2 : Nat → List ByteArray → Int → ByteArray → Int → Int → Bool → Option (Bool)
  | 0, _, _, _, _, _, _ => none
  | k + 1, x0, x1, x5, x7, x8, x50 => if x50 = true then (some false) else ((varint_Take.f k x5 x7 300).bind fun bt191 => (if bt191.2.2 = 0 then (if 0 ≤ x8 then (if x8 < (x0.length : Int) then (if bt191.1.toList = (rdOf ByteArray.empty x0 x8).toList then (if bt191.2.1 ≤ x7 then (rollcalllaw01_VarintTexts.j3 k x0 x1 x5 x7 x8 bt191.2.1 true) else (rollcalllaw01_VarintTexts.j3 k x0 x1 x5 x7 x8 bt191.2.1 (decide (bt191.2.1 > (x5.size : Int))))) else (rollcalllaw01_VarintTexts.j3 k x0 x1 x5 x7 x8 bt191.2.1 true)) else (none)) else (none)) else (rollcalllaw01_VarintTexts.j3 k x0 x1 x5 x7 x8 bt191.2.1 true)))
def rollcalllaw01_VarintTexts.j3 : Nat → List ByteArray → Int → ByteArray → Int → Int → Int → Bool → Option (Bool)
  | 0, _, _, _, _, _, _, _ => none
  | k + 1, x0, x1, x5, x7, x8, x10, x78 => if x78 = true then (some false) else (if x1 ≥ x7 then (rollcalllaw01_VarintTexts.j4 k x0 x1 x5 x7 x8 x10 (decide (x1 < x10))) else (rollcalllaw01_VarintTexts.j4 k x0 x1 x5 x7 x8 x10 false))
def rollcalllaw01_VarintTexts.j4 : Nat → List ByteArray → Int → ByteArray → Int → Int → Int → Bool → Option (Bool)
  | 0, _, _, _, _, _, _, _ => none
  | k + 1, x0, x1, x5, x7, x8, x10, x86 => if x86 = true then (if 0 ≤ x1 then (if x1 ≤ (x5.size : Int) then ((varint_Take.f k (x5.extract 0 (x1 : Int).toNat) x7 300).bind fun bt195 => (if bt195.2.2 = 2 then (if bt195.1.toList = ([] : List UInt8) then (rollcalllaw01_VarintTexts.l1 k x0 x1 x5 x10 (wrap64 (x8 + 1))) else (some false)) else (some false))) else (none)) else (none)) else (rollcalllaw01_VarintTexts.l1 k x0 x1 x5 x10 (wrap64 (x8 + 1)))
end
def rollcalllaw01_VarintTexts.f (k : Nat) (l0 : List ByteArray) (a1 : Int) : Option (Bool) := if (l0.length : Int) > 20 then ((rollcalllaw01_live.f k).bind fun t185 => (some t185)) else (rollcalllaw01_VarintTexts.l0 k l0 a1 (⟨#[]⟩ : ByteArray) 0)
theorem rollcalllaw01_VarintTexts.mono_l : ∀ k, (∀ y0 y1 y2 y3, LeO (rollcalllaw01_VarintTexts.l0 k y0 y1 y2 y3) (rollcalllaw01_VarintTexts.l0 (k + 1) y0 y1 y2 y3)) ∧ (∀ y0 y1 y2 y3 y4, LeO (rollcalllaw01_VarintTexts.l1 k y0 y1 y2 y3 y4) (rollcalllaw01_VarintTexts.l1 (k + 1) y0 y1 y2 y3 y4)) ∧ (∀ y0 y1 y2 y3 y4 y5, LeO (rollcalllaw01_VarintTexts.j2 k y0 y1 y2 y3 y4 y5) (rollcalllaw01_VarintTexts.j2 (k + 1) y0 y1 y2 y3 y4 y5)) ∧ (∀ y0 y1 y2 y3 y4 y5 y6, LeO (rollcalllaw01_VarintTexts.j3 k y0 y1 y2 y3 y4 y5 y6) (rollcalllaw01_VarintTexts.j3 (k + 1) y0 y1 y2 y3 y4 y5 y6)) ∧ (∀ y0 y1 y2 y3 y4 y5 y6, LeO (rollcalllaw01_VarintTexts.j4 k y0 y1 y2 y3 y4 y5 y6) (rollcalllaw01_VarintTexts.j4 (k + 1) y0 y1 y2 y3 y4 y5 y6))
  | 0 => ⟨fun _ _ _ _ r h => by simp [rollcalllaw01_VarintTexts.l0] at h, fun _ _ _ _ _ r h => by simp [rollcalllaw01_VarintTexts.l1] at h, fun _ _ _ _ _ _ r h => by simp [rollcalllaw01_VarintTexts.j2] at h, fun _ _ _ _ _ _ _ r h => by simp [rollcalllaw01_VarintTexts.j3] at h, fun _ _ _ _ _ _ _ r h => by simp [rollcalllaw01_VarintTexts.j4] at h⟩
  | k + 1 => by
    obtain ⟨ih0, ih1, ih2, ih3, ih4⟩ := rollcalllaw01_VarintTexts.mono_l k
    refine ⟨?_, ?_, ?_, ?_, ?_⟩
    · intro y0 y1 y2 y3
      unfold rollcalllaw01_VarintTexts.l0
      repeat' first
      | (with_reducible exact ih0 _ _ _ _)
      | (with_reducible exact ih1 _ _ _ _ _)
      | (with_reducible exact ih2 _ _ _ _ _ _)
      | (with_reducible exact ih3 _ _ _ _ _ _ _)
      | (with_reducible exact ih4 _ _ _ _ _ _ _)
      | (with_reducible exact rollcalllaw01_live.mono _)
      | (with_reducible exact varint_Take.mono _ _ _ _)
      | (with_reducible exact varint_Text.mono _ _)
      | (with_reducible exact LeO.refl _)
      | (with_reducible exact LeO.none _)
      | (with_reducible refine LeO.ite ?_ ?_)
      | (with_reducible refine LeO.bind ?_ (fun _ => ?_))
      | exact ih0 _ _ _ _
      | exact ih1 _ _ _ _ _
      | exact ih2 _ _ _ _ _ _
      | exact ih3 _ _ _ _ _ _ _
      | exact ih4 _ _ _ _ _ _ _
      | exact rollcalllaw01_live.mono _
      | exact varint_Take.mono _ _ _ _
      | exact varint_Text.mono _ _
      | exact LeO.none _
      | refine LeO.ite ?_ ?_
      | refine LeO.bind ?_ (fun _ => ?_)
    · intro y0 y1 y2 y3 y4
      unfold rollcalllaw01_VarintTexts.l1
      repeat' first
      | (with_reducible exact ih0 _ _ _ _)
      | (with_reducible exact ih1 _ _ _ _ _)
      | (with_reducible exact ih2 _ _ _ _ _ _)
      | (with_reducible exact ih3 _ _ _ _ _ _ _)
      | (with_reducible exact ih4 _ _ _ _ _ _ _)
      | (with_reducible exact rollcalllaw01_live.mono _)
      | (with_reducible exact varint_Take.mono _ _ _ _)
      | (with_reducible exact varint_Text.mono _ _)
      | (with_reducible exact LeO.refl _)
      | (with_reducible exact LeO.none _)
      | (with_reducible refine LeO.ite ?_ ?_)
      | (with_reducible refine LeO.bind ?_ (fun _ => ?_))
      | exact ih0 _ _ _ _
      | exact ih1 _ _ _ _ _
      | exact ih2 _ _ _ _ _ _
      | exact ih3 _ _ _ _ _ _ _
      | exact ih4 _ _ _ _ _ _ _
      | exact rollcalllaw01_live.mono _
      | exact varint_Take.mono _ _ _ _
      | exact varint_Text.mono _ _
      | exact LeO.none _
      | refine LeO.ite ?_ ?_
      | refine LeO.bind ?_ (fun _ => ?_)
    · intro y0 y1 y2 y3 y4 y5
      unfold rollcalllaw01_VarintTexts.j2
      repeat' first
      | (with_reducible exact ih0 _ _ _ _)
      | (with_reducible exact ih1 _ _ _ _ _)
      | (with_reducible exact ih2 _ _ _ _ _ _)
      | (with_reducible exact ih3 _ _ _ _ _ _ _)
      | (with_reducible exact ih4 _ _ _ _ _ _ _)
      | (with_reducible exact rollcalllaw01_live.mono _)
      | (with_reducible exact varint_Take.mono _ _ _ _)
      | (with_reducible exact varint_Text.mono _ _)
      | (with_reducible exact LeO.refl _)
      | (with_reducible exact LeO.none _)
      | (with_reducible refine LeO.ite ?_ ?_)
      | (with_reducible refine LeO.bind ?_ (fun _ => ?_))
      | exact ih0 _ _ _ _
      | exact ih1 _ _ _ _ _
      | exact ih2 _ _ _ _ _ _
      | exact ih3 _ _ _ _ _ _ _
      | exact ih4 _ _ _ _ _ _ _
      | exact rollcalllaw01_live.mono _
      | exact varint_Take.mono _ _ _ _
      | exact varint_Text.mono _ _
      | exact LeO.none _
      | refine LeO.ite ?_ ?_
      | refine LeO.bind ?_ (fun _ => ?_)
    · intro y0 y1 y2 y3 y4 y5 y6
      unfold rollcalllaw01_VarintTexts.j3
      repeat' first
      | (with_reducible exact ih0 _ _ _ _)
      | (with_reducible exact ih1 _ _ _ _ _)
      | (with_reducible exact ih2 _ _ _ _ _ _)
      | (with_reducible exact ih3 _ _ _ _ _ _ _)
      | (with_reducible exact ih4 _ _ _ _ _ _ _)
      | (with_reducible exact rollcalllaw01_live.mono _)
      | (with_reducible exact varint_Take.mono _ _ _ _)
      | (with_reducible exact varint_Text.mono _ _)
      | (with_reducible exact LeO.refl _)
      | (with_reducible exact LeO.none _)
      | (with_reducible refine LeO.ite ?_ ?_)
      | (with_reducible refine LeO.bind ?_ (fun _ => ?_))
      | exact ih0 _ _ _ _
      | exact ih1 _ _ _ _ _
      | exact ih2 _ _ _ _ _ _
      | exact ih3 _ _ _ _ _ _ _
      | exact ih4 _ _ _ _ _ _ _
      | exact rollcalllaw01_live.mono _
      | exact varint_Take.mono _ _ _ _
      | exact varint_Text.mono _ _
      | exact LeO.none _
      | refine LeO.ite ?_ ?_
      | refine LeO.bind ?_ (fun _ => ?_)
    · intro y0 y1 y2 y3 y4 y5 y6
      unfold rollcalllaw01_VarintTexts.j4
      repeat' first
      | (with_reducible exact ih0 _ _ _ _)
      | (with_reducible exact ih1 _ _ _ _ _)
      | (with_reducible exact ih2 _ _ _ _ _ _)
      | (with_reducible exact ih3 _ _ _ _ _ _ _)
      | (with_reducible exact ih4 _ _ _ _ _ _ _)
      | (with_reducible exact rollcalllaw01_live.mono _)
      | (with_reducible exact varint_Take.mono _ _ _ _)
      | (with_reducible exact varint_Text.mono _ _)
      | (with_reducible exact LeO.refl _)
      | (with_reducible exact LeO.none _)
      | (with_reducible refine LeO.ite ?_ ?_)
      | (with_reducible refine LeO.bind ?_ (fun _ => ?_))
      | exact ih0 _ _ _ _
      | exact ih1 _ _ _ _ _
      | exact ih2 _ _ _ _ _ _
      | exact ih3 _ _ _ _ _ _ _
      | exact ih4 _ _ _ _ _ _ _
      | exact rollcalllaw01_live.mono _
      | exact varint_Take.mono _ _ _ _
      | exact varint_Text.mono _ _
      | exact LeO.none _
      | refine LeO.ite ?_ ?_
      | refine LeO.bind ?_ (fun _ => ?_)
theorem rollcalllaw01_VarintTexts.mono : ∀ a0 a1 k, LeO (rollcalllaw01_VarintTexts.f k a0 a1) (rollcalllaw01_VarintTexts.f (k + 1) a0 a1) := by
  intro a0 a1 k
  obtain ⟨ih0, ih1, ih2, ih3, ih4⟩ := rollcalllaw01_VarintTexts.mono_l k
  unfold rollcalllaw01_VarintTexts.f
  repeat' first
      | (with_reducible exact ih0 _ _ _ _)
      | (with_reducible exact ih1 _ _ _ _ _)
      | (with_reducible exact ih2 _ _ _ _ _ _)
      | (with_reducible exact ih3 _ _ _ _ _ _ _)
      | (with_reducible exact ih4 _ _ _ _ _ _ _)
      | (with_reducible exact rollcalllaw01_live.mono _)
      | (with_reducible exact varint_Take.mono _ _ _ _)
      | (with_reducible exact varint_Text.mono _ _)
      | (with_reducible exact LeO.refl _)
      | (with_reducible exact LeO.none _)
      | (with_reducible refine LeO.ite ?_ ?_)
      | (with_reducible refine LeO.bind ?_ (fun _ => ?_))
      | exact ih0 _ _ _ _
      | exact ih1 _ _ _ _ _
      | exact ih2 _ _ _ _ _ _
      | exact ih3 _ _ _ _ _ _ _
      | exact ih4 _ _ _ _ _ _ _
      | exact rollcalllaw01_live.mono _
      | exact varint_Take.mono _ _ _ _
      | exact varint_Text.mono _ _
      | exact LeO.none _
      | refine LeO.ite ?_ ?_
      | refine LeO.bind ?_ (fun _ => ?_)
set_option maxHeartbeats 8000000 in
set_option maxRecDepth 100000 in
theorem rollcalllaw01_VarintTexts.calls (k : Nat) (A0 : Option Addr) (c0 : Nat) (l0 : List ByteArray) (a1 : Int) (r : Bool) (w : World) (hr0 : Kd.C Kd.string w A0 l0.length l0) (hc0 : l0.length ≤ c0) (h : rollcalllaw01_VarintTexts.f k l0 a1 = some r) :
    Calls Try.prog 6 #[.slice A0 l0.length c0, .int .i64 a1] w fun e w' => e = .returned (.bool r) ∧ Below w.heap.size w w' := by
  have HR0 := Aside0.mk hr0
  have HC0 := Aside0.mk hc0
  clear hr0 hc0
  have HB := Aside0.mk (Below.refl w.heap.size w)
  have H : (if (l0.length : Int) > 20 then ((rollcalllaw01_live.f k).bind fun t185 => (some t185)) else (rollcalllaw01_VarintTexts.l0 k l0 a1 (⟨#[]⟩ : ByteArray) 0)) = some r := h
  clear h
  by_cases c3 : (l0.length : Int) > 20
  · rw [if_pos c3] at H
    have c3b0 : decide (20 < (l0.length : Int)) = true := decide_eq_true c3
    have c3b1 : decide (20 < l0.length) = true := decide_eq_true (by omega)
    clear c3
    replace H := Option.bind_eq_some_iff.mp H
    obtain ⟨t185, A40, H⟩ := H
    replace H : (some t185) = some r := H
    have A4 := Aside0.mk A40
    clear A40
    obtain rfl := Option.some.inj H
    go_enter Try.func6, Try.ntmps6
    go_wp2_with (first | ((with_reducible refine gate_callee (f := 9) rfl ?_); refine goesL_ (some 18) rfl rfl Try.func9 (by kernel_rfl) rfl #[] rfl (by (try simp only [List.map_toArray, List.map_cons, List.map_nil]); first | done | rfl | (simp only [List.length_drop, List.length_take]; rfl)) ?_; (with_reducible refine (rollcalllaw01_live.calls k  t185 _ A4.out).mono ?_); rintro e w5 ⟨rfl, hb⟩; refine ⟨_, rfl, ?_⟩; have n0_ := Aside0.mk (below_step (by repeat (first | (with_reducible first | exact HB.out | apply below_alloc | apply pw_below_drewN | apply below_drew1) | exact HB.out)) hb); clear HB; have HB := n0_; clear n0_; (try clear hb); (try clear hb2); (try clear hk); (try clear hi)))
    go_ret
    exact ⟨by first | rfl | (simp [errW_none, errW_some] <;> rfl) | (simp [*, errW_none, errW_some] <;> rfl), by repeat (first | (with_reducible first | exact HB.out | apply below_alloc | apply pw_below_drewN | apply below_drew1) | exact HB.out)⟩
  · rw [if_neg c3] at H
    have c3b0 : decide (20 < (l0.length : Int)) = false := decide_eq_false c3
    have c3b1 : decide (20 < l0.length) = false := decide_eq_false (by omega)
    clear c3
    have H' := Aside0.mk H
    clear H
    go_enter Try.func6, Try.ntmps6
    go_wp2
    go_loopg [5, 6] k (fun kq v5 v6 w' => ∃ (x5_1 : ByteArray) (x6_1 : Int), v5 = .string x5_1 ∧ v6 = .int .i64 x6_1 ∧ Aside0 (rollcalllaw01_VarintTexts.l0 kq l0 a1 x5_1 x6_1 = some r) ∧ Aside0 (kq ≤ k) ∧ Aside0 (Below w.heap.size w w'))
    case atStart => exact ⟨((⟨#[]⟩ : ByteArray)), (0), (by first | rfl | (simp; done) | (simp [*]; done)), (by first | rfl | (simp; done) | (simp [*]; done)), H', ⟨Nat.le_refl _⟩, ⟨by repeat (first | (with_reducible first | exact HB.out | apply below_alloc | apply pw_below_drewN | apply below_drew1) | exact HB.out)⟩⟩
    case round =>
      clear H'
      try clear p2
      try clear c3
      try clear c3b0
      try clear c3b1
      obtain ⟨x5_1, x6_1, rfl, rfl, HA, HK1, HB⟩ := hrel
      cases gk with
      | zero => exact absurd HA.out (by simp [rollcalllaw01_VarintTexts.l0])
      | succ k1 =>
        have H := HA.out
        clear HA
        simp only [rollcalllaw01_VarintTexts.l0] at H
        by_cases c6 : x6_1 < (l0.length : Int)
        · rw [if_pos c6] at H
          have c6b0 : decide (x6_1 < (l0.length : Int)) = true := decide_eq_true c6
          clear c6
          by_cases c7 : 0 ≤ x6_1
          · rw [if_pos c7] at H
            have c7b0 : decide (0 ≤ x6_1) = true := decide_eq_true c7
            clear c7
            by_cases c8 : ((rdOf ByteArray.empty l0 x6_1).size : Int) > 300
            · rw [if_pos c8] at H
              have c8b0 : decide (300 < ((rdOf ByteArray.empty l0 x6_1).size : Int)) = true := decide_eq_true c8
              have c8b1 : decide (300 < (rdOf ByteArray.empty l0 x6_1).size) = true := decide_eq_true (by omega)
              clear c8
              replace H := Option.bind_eq_some_iff.mp H
              obtain ⟨t187, A90, H⟩ := H
              replace H : (some t187) = some r := H
              have A9 := Aside0.mk A90
              clear A90
              obtain rfl := Option.some.inj H
              have p186 : 0 ≤ (x6_1 : Int) := of_decide_eq_true (by first | (with_reducible assumption) | assumption)
              have q186 : x6_1 < (l0.length : Int) := of_decide_eq_true (by first | (with_reducible assumption) | assumption)
              obtain ⟨ad186, e186, hx186_0⟩ := Kd.at_string HR0.out x6_1 p186 q186
              cases e186
              replace hx186_0 := (HB.out.cell (World.block_lt_of_cell? w _ hx186_0)).trans hx186_0
              replace p186 := eq_true p186
              replace q186 := eq_true q186
              go_wp2_with (first | ((with_reducible refine gate_callee (f := 9) rfl ?_); refine goesL_ (some 31) rfl rfl Try.func9 (by kernel_rfl) rfl #[] rfl (by (try simp only [List.map_toArray, List.map_cons, List.map_nil]); first | done | rfl | (simp only [List.length_drop, List.length_take]; rfl)) ?_; (with_reducible refine (rollcalllaw01_live.calls k1  t187 _ A9.out).mono ?_); rintro e w10 ⟨rfl, hb⟩; refine ⟨_, rfl, ?_⟩; have n0_ := Aside0.mk (below_step (by repeat (first | (with_reducible first | exact HB.out | apply below_alloc | apply pw_below_drewN | apply below_drew1) | exact HB.out)) hb); clear HB; have HB := n0_; clear n0_; (try clear hb); (try clear hb2); (try clear hk); (try clear hi)))
              go_ret
              exact ⟨by first | rfl | (simp [errW_none, errW_some] <;> rfl) | (simp [*, errW_none, errW_some] <;> rfl), by repeat (first | (with_reducible first | exact HB.out | apply below_alloc | apply pw_below_drewN | apply below_drew1) | exact HB.out)⟩
            · rw [if_neg c8] at H
              have c8b0 : decide (300 < ((rdOf ByteArray.empty l0 x6_1).size : Int)) = false := decide_eq_false c8
              have c8b1 : decide (300 < (rdOf ByteArray.empty l0 x6_1).size) = false := decide_eq_false (by omega)
              clear c8
              replace H := Option.bind_eq_some_iff.mp H
              obtain ⟨t189, A110, H⟩ := H
              replace H : (if x5_1.size + t189.size ≤ 9223372036854775807 then (rollcalllaw01_VarintTexts.l0 k1 l0 a1 (x5_1 ++ t189) (wrap64 (x6_1 + 1))) else (none)) = some r := H
              have A11 := Aside0.mk A110
              clear A110
              by_cases c12 : x5_1.size + t189.size ≤ 9223372036854775807
              · rw [if_pos c12] at H
                have c12b0 := eq_true c12
                have c12b1 : decide (x5_1.size + t189.size ≤ 9223372036854775807) = true := decide_eq_true c12
                try have c12b2 : (9223372036854775807 < x5_1.size + t189.size) = False := eq_false (Nat.not_lt.2 c12)
                (try (have c12b3 := c12b0; simp only [ByteArray.size_append] at c12b3))
                (try (have c12b4 := c12b2; simp only [ByteArray.size_append] at c12b4))
                clear c12
                have H' := Aside0.mk H
                clear H
                have p186 : 0 ≤ (x6_1 : Int) := of_decide_eq_true (by first | (with_reducible assumption) | assumption)
                have q186 : x6_1 < (l0.length : Int) := of_decide_eq_true (by first | (with_reducible assumption) | assumption)
                obtain ⟨ad186, e186, hx186_0⟩ := Kd.at_string HR0.out x6_1 p186 q186
                cases e186
                replace hx186_0 := (HB.out.cell (World.block_lt_of_cell? w _ hx186_0)).trans hx186_0
                replace p186 := eq_true p186
                replace q186 := eq_true q186
                have p188 : 0 ≤ (x6_1 : Int) := of_decide_eq_true (by first | (with_reducible assumption) | assumption)
                have q188 : x6_1 < (l0.length : Int) := of_decide_eq_true (by first | (with_reducible assumption) | assumption)
                obtain ⟨ad188, e188, hx188_0⟩ := Kd.at_string HR0.out x6_1 p188 q188
                obtain rfl : ad186 = ad188 := (by injection e188)
                replace hx188_0 := (HB.out.cell (World.block_lt_of_cell? w _ hx188_0)).trans hx188_0
                replace p188 := eq_true p188
                replace q188 := eq_true q188
                go_wp2_with (first | ((with_reducible refine gate_callee (f := 14) rfl ?_); refine goesL_ (some 37) rfl rfl Try.func14 (by kernel_rfl) rfl #[.string (rdOf ByteArray.empty l0 x6_1)] rfl (by (try simp only [List.map_toArray, List.map_cons, List.map_nil]); first | done | rfl | (simp only [List.length_drop, List.length_take]; rfl)) ?_; (with_reducible refine (varint_Text.calls k1 (rdOf ByteArray.empty l0 x6_1) t189 _ A11.out).mono ?_); rintro e w13 ⟨rfl, hb⟩; refine ⟨_, rfl, ?_⟩; have n0_ := Aside0.mk (below_step (by repeat (first | (with_reducible first | exact HB.out | apply below_alloc | apply pw_below_drewN | apply below_drew1) | exact HB.out)) hb); clear HB; have HB := n0_; clear n0_; (try clear hb); (try clear hb2); (try clear hk); (try clear hi)))
                go_roundg k1
                case measure => have := HK1.out; omega
                case rel => exact ⟨(x5_1 ++ t189), (wrap64 (x6_1 + 1)), (by first | rfl | (simp; done) | (simp [*]; done)), (by first | rfl | (simp; done) | (simp [*]; done)), H', ⟨by have := HK1.out; omega⟩, ⟨by repeat (first | (with_reducible first | exact HB.out | apply below_alloc | apply pw_below_drewN | apply below_drew1) | exact HB.out)⟩⟩
              · rw [if_neg c12] at H
                exact absurd H (by simp)
          · rw [if_neg c7] at H
            exact absurd H (by simp)
        · rw [if_neg c6] at H
          have c6b0 : decide (x6_1 < (l0.length : Int)) = false := decide_eq_false c6
          clear c6
          have H' := Aside0.mk H
          clear H
          go_wp2
          go_loopg [7, 8] k1 (fun kq v7 v8 w' => ∃ (x7_2 : Int) (x8_2 : Int), v7 = .int .i64 x7_2 ∧ v8 = .int .i64 x8_2 ∧ Aside0 (rollcalllaw01_VarintTexts.l1 kq l0 a1 x5_1 x7_2 x8_2 = some r) ∧ Aside0 (kq ≤ k1) ∧ Aside0 (Below w.heap.size w w'))
          case atStart => exact ⟨(0), (0), (by first | rfl | (simp; done) | (simp [*]; done)), (by first | rfl | (simp; done) | (simp [*]; done)), H', ⟨Nat.le_refl _⟩, ⟨by repeat (first | (with_reducible first | exact HB.out | apply below_alloc | apply pw_below_drewN | apply below_drew1) | exact HB.out)⟩⟩
          case round =>
            clear H'
            try clear c1
            try clear p1
            try clear q1
            try clear hx1
            try clear p2
            try clear c3
            try clear c3b0
            try clear c3b1
            try clear c6
            try clear c6b0
            try clear p6
            try clear c7
            try clear c7b0
            try clear c8
            try clear c8b0
            try clear c8b1
            try clear c9
            try clear c12
            try clear c12b0
            try clear c12b1
            try clear c12b2
            try clear hx186_0
            try clear hx188_0
            try clear p186
            try clear p188
            try clear p2
            try clear q186
            try clear q188
            obtain ⟨x7_2, x8_2, rfl, rfl, HA, HK2, HB⟩ := hrel
            cases gk with
            | zero => exact absurd HA.out (by simp [rollcalllaw01_VarintTexts.l1])
            | succ k2 =>
              have H := HA.out
              clear HA
              simp only [rollcalllaw01_VarintTexts.l1] at H
              by_cases c14 : x8_2 < (l0.length : Int)
              · rw [if_pos c14] at H
                have c14b0 : decide (x8_2 < (l0.length : Int)) = true := decide_eq_true c14
                clear c14
                have HC15 := Aside0.mk H
                clear H
                go_upto_region 14 with (fail)
                go_cut [50] (fun v50 wc => ∃ (kq : Nat) (x50_14 : Bool), v50 = .bool x50_14 ∧ Aside0 (rollcalllaw01_VarintTexts.j2 kq l0 a1 x5_1 x7_2 x8_2 x50_14 = some r) ∧ Aside0 (kq ≤ k2) ∧ Aside0 (Below w.heap.size w wc))
                case first =>
                  have H := HC15.out
                  clear HC15
                  by_cases c16 : x8_2 > 0
                  · rw [if_pos c16] at H
                    have c16b0 : decide (0 < x8_2) = true := decide_eq_true c16
                    clear c16
                    (first | rw [c16b0] | (simp only [i64_w, i32_w]; rw [c16b0]) | skip)
                    have H' := Aside0.mk H
                    clear H
                    go_wp2
                    go_meet
                    case rel => exact ⟨_, ((x7_2 == 0)), (by first | rfl | (simp; done) | (simp [*]; done)), H', ⟨by have := HK1.out; have := HK2.out; first | omega | exact Nat.le_refl _⟩, ⟨by repeat (first | (with_reducible first | exact HB.out | apply below_alloc | apply pw_below_drewN | apply below_drew1) | exact HB.out)⟩⟩
                  · rw [if_neg c16] at H
                    have c16b0 : decide (0 < x8_2) = false := decide_eq_false c16
                    clear c16
                    (first | rw [c16b0] | (simp only [i64_w, i32_w]; rw [c16b0]) | skip)
                    have H' := Aside0.mk H
                    clear H
                    go_wp2
                    go_meet
                    case rel => exact ⟨_, (false), (by first | rfl | (simp; done) | (simp [*]; done)), H', ⟨by have := HK1.out; have := HK2.out; first | omega | exact Nat.le_refl _⟩, ⟨by repeat (first | (with_reducible first | exact HB.out | apply below_alloc | apply pw_below_drewN | apply below_drew1) | exact HB.out)⟩⟩
                case rest =>
                  clear HC15
                  try clear c1
                  try clear p1
                  try clear q1
                  try clear hx1
                  try clear p2
                  try clear c3
                  try clear c3b0
                  try clear c3b1
                  try clear c6
                  try clear c6b0
                  try clear p6
                  try clear c7
                  try clear c7b0
                  try clear c8
                  try clear c8b0
                  try clear c8b1
                  try clear c9
                  try clear c12
                  try clear c12b0
                  try clear c12b1
                  try clear c12b2
                  try clear c14
                  try clear c14b0
                  try clear c16
                  try clear c16b0
                  try clear hx186_0
                  try clear hx188_0
                  try clear p1
                  try clear p186
                  try clear p188
                  try clear p2
                  try clear p6
                  try clear q1
                  try clear q186
                  try clear q188
                  obtain ⟨kq, x50_14, rfl, HA, HJ14, HB⟩ := hcut
                  cases kq with
                  | zero => exact absurd HA.out (by simp [rollcalllaw01_VarintTexts.j2])
                  | succ kj14 =>
                    have H := HA.out
                    clear HA
                    simp only [rollcalllaw01_VarintTexts.j2] at H
                    by_cases c17 : x50_14 = true
                    · subst c17
                      have H1 : (some false) = some r := by rw [if_pos rfl] at H; exact H
                      clear H
                      have H := H1
                      clear H1
                      obtain rfl := Option.some.inj H
                      go_wp2
                      go_ret
                      exact ⟨by first | rfl | (simp [errW_none, errW_some] <;> rfl) | (simp [*, errW_none, errW_some] <;> rfl), by repeat (first | (with_reducible first | exact HB.out | apply below_alloc | apply pw_below_drewN | apply below_drew1) | exact HB.out)⟩
                    · replace c17 := Bool.eq_false_iff.mpr c17
                      subst c17
                      have H1 : ((varint_Take.f kj14 x5_1 x7_2 300).bind fun bt191 => (if bt191.2.2 = 0 then (if 0 ≤ x8_2 then (if x8_2 < (l0.length : Int) then (if bt191.1.toList = (rdOf ByteArray.empty l0 x8_2).toList then (if bt191.2.1 ≤ x7_2 then (rollcalllaw01_VarintTexts.j3 kj14 l0 a1 x5_1 x7_2 x8_2 bt191.2.1 true) else (rollcalllaw01_VarintTexts.j3 kj14 l0 a1 x5_1 x7_2 x8_2 bt191.2.1 (decide (bt191.2.1 > (x5_1.size : Int))))) else (rollcalllaw01_VarintTexts.j3 kj14 l0 a1 x5_1 x7_2 x8_2 bt191.2.1 true)) else (none)) else (none)) else (rollcalllaw01_VarintTexts.j3 kj14 l0 a1 x5_1 x7_2 x8_2 bt191.2.1 true))) = some r := by rw [if_neg (show ¬ (false = true) by decide)] at H; exact H
                      clear H
                      have H := H1
                      clear H1
                      replace H := Option.bind_eq_some_iff.mp H
                      obtain ⟨⟨t191, t192, t193⟩, A180, H⟩ := H
                      replace H : (if t193 = 0 then (if 0 ≤ x8_2 then (if x8_2 < (l0.length : Int) then (if t191.toList = (rdOf ByteArray.empty l0 x8_2).toList then (if t192 ≤ x7_2 then (rollcalllaw01_VarintTexts.j3 kj14 l0 a1 x5_1 x7_2 x8_2 t192 true) else (rollcalllaw01_VarintTexts.j3 kj14 l0 a1 x5_1 x7_2 x8_2 t192 (decide (t192 > (x5_1.size : Int))))) else (rollcalllaw01_VarintTexts.j3 kj14 l0 a1 x5_1 x7_2 x8_2 t192 true)) else (none)) else (none)) else (rollcalllaw01_VarintTexts.j3 kj14 l0 a1 x5_1 x7_2 x8_2 t192 true)) = some r := H
                      have A18 := Aside0.mk A180
                      clear A180
                      have HC19 := Aside0.mk H
                      clear H
                      go_upto_region 17 with (first | ((with_reducible refine gate_callee (f := 18) rfl ?_); refine goesL_ (some 54) rfl rfl Try.func18 (by kernel_rfl) rfl #[.string x5_1, .int .i64 x7_2, .int .i64 300] rfl (by (try simp only [List.map_toArray, List.map_cons, List.map_nil]); first | done | rfl | (simp only [List.length_drop, List.length_take]; rfl)) ?_; (with_reducible refine (varint_Take.calls kj14 x5_1 x7_2 300 t191 t192 t193 _ A18.out).mono ?_); rintro e w' ⟨rfl, ⟨nd, rfl⟩⟩; refine ⟨_, rfl, ?_⟩))
                      (try simp only [Act.put, List.setIfInBounds_toArray, List.set_cons_zero, List.set_cons_succ])
                      go_cut [78] (fun v78 wc => ∃ (kq : Nat) (x78_18 : Bool), v78 = .bool x78_18 ∧ Aside0 (rollcalllaw01_VarintTexts.j3 kq l0 a1 x5_1 x7_2 x8_2 t192 x78_18 = some r) ∧ Aside0 (kq ≤ kj14) ∧ Aside0 (Below w.heap.size w wc))
                      case first =>
                        have H := HC19.out
                        clear HC19
                        by_cases c20 : t193 = 0
                        · rw [if_pos c20] at H
                          have c20b0 : (t193 == 0) = true := beq_iff_eq.mpr c20
                          have c20b1 : (t193 != 0) = false := bne_eq_false_iff_eq.mpr c20
                          clear c20
                          (first | rw [c20b0] | (simp only [i64_w, i32_w]; rw [c20b0]) | skip)
                          by_cases c21 : 0 ≤ x8_2
                          · rw [if_pos c21] at H
                            have c21b0 : decide (0 ≤ x8_2) = true := decide_eq_true c21
                            clear c21
                            by_cases c22 : x8_2 < (l0.length : Int)
                            · rw [if_pos c22] at H
                              have c22b0 : decide (x8_2 < (l0.length : Int)) = true := decide_eq_true c22
                              clear c22
                              by_cases c23 : t191.toList = (rdOf ByteArray.empty l0 x8_2).toList
                              · rw [if_pos c23] at H
                                have c23b0 : (t191.toList == (rdOf ByteArray.empty l0 x8_2).toList) = true := beq_iff_eq.mpr c23
                                have c23b1 : (t191.toList != (rdOf ByteArray.empty l0 x8_2).toList) = false := bne_eq_false_iff_eq.mpr c23
                                clear c23
                                by_cases c24 : t192 ≤ x7_2
                                · rw [if_pos c24] at H
                                  have c24b0 : decide (t192 ≤ x7_2) = true := decide_eq_true c24
                                  clear c24
                                  have H' := Aside0.mk H
                                  clear H
                                  have p194 : 0 ≤ (x8_2 : Int) := of_decide_eq_true (by first | (with_reducible assumption) | assumption)
                                  have q194 : x8_2 < (l0.length : Int) := of_decide_eq_true (by first | (with_reducible assumption) | assumption)
                                  obtain ⟨ad194, e194, hx194_0⟩ := Kd.at_string HR0.out x8_2 p194 q194
                                  cases e194
                                  replace hx194_0 := (HB.out.cell (World.block_lt_of_cell? w _ hx194_0)).trans hx194_0
                                  replace p194 := eq_true p194
                                  replace q194 := eq_true q194
                                  go_wp2
                                  go_meet
                                  case rel => exact ⟨_, (true), (by first | rfl | (simp; done) | (simp [*]; done)), H', ⟨by have := HK1.out; have := HK2.out; have := HJ14.out; first | omega | exact Nat.le_refl _⟩, ⟨by repeat (first | (with_reducible first | exact HB.out | apply below_alloc | apply pw_below_drewN | apply below_drew1) | exact HB.out)⟩⟩
                                · rw [if_neg c24] at H
                                  have c24b0 : decide (t192 ≤ x7_2) = false := decide_eq_false c24
                                  clear c24
                                  have H' := Aside0.mk H
                                  clear H
                                  have p194 : 0 ≤ (x8_2 : Int) := of_decide_eq_true (by first | (with_reducible assumption) | assumption)
                                  have q194 : x8_2 < (l0.length : Int) := of_decide_eq_true (by first | (with_reducible assumption) | assumption)
                                  obtain ⟨ad194, e194, hx194_0⟩ := Kd.at_string HR0.out x8_2 p194 q194
                                  cases e194
                                  replace hx194_0 := (HB.out.cell (World.block_lt_of_cell? w _ hx194_0)).trans hx194_0
                                  replace p194 := eq_true p194
                                  replace q194 := eq_true q194
                                  go_wp2
                                  go_meet
                                  case rel => exact ⟨_, (decide (t192 > (x5_1.size : Int))), (by first | rfl | (simp; done) | (simp [*]; done)), H', ⟨by have := HK1.out; have := HK2.out; have := HJ14.out; first | omega | exact Nat.le_refl _⟩, ⟨by repeat (first | (with_reducible first | exact HB.out | apply below_alloc | apply pw_below_drewN | apply below_drew1) | exact HB.out)⟩⟩
                              · rw [if_neg c23] at H
                                have c23b0 : (t191.toList == (rdOf ByteArray.empty l0 x8_2).toList) = false := beq_eq_false_iff_ne.mpr c23
                                have c23b1 : (t191.toList != (rdOf ByteArray.empty l0 x8_2).toList) = true := bne_iff_ne.mpr c23
                                have H' := Aside0.mk H
                                clear H
                                have p194 : 0 ≤ (x8_2 : Int) := of_decide_eq_true (by first | (with_reducible assumption) | assumption)
                                have q194 : x8_2 < (l0.length : Int) := of_decide_eq_true (by first | (with_reducible assumption) | assumption)
                                obtain ⟨ad194, e194, hx194_0⟩ := Kd.at_string HR0.out x8_2 p194 q194
                                cases e194
                                replace hx194_0 := (HB.out.cell (World.block_lt_of_cell? w _ hx194_0)).trans hx194_0
                                replace p194 := eq_true p194
                                replace q194 := eq_true q194
                                go_wp2
                                go_meet
                                case rel => exact ⟨_, (true), (by first | rfl | (simp; done) | (simp [*]; done)), H', ⟨by have := HK1.out; have := HK2.out; have := HJ14.out; first | omega | exact Nat.le_refl _⟩, ⟨by repeat (first | (with_reducible first | exact HB.out | apply below_alloc | apply pw_below_drewN | apply below_drew1) | exact HB.out)⟩⟩
                            · rw [if_neg c22] at H
                              exact absurd H (by simp)
                          · rw [if_neg c21] at H
                            exact absurd H (by simp)
                        · rw [if_neg c20] at H
                          have c20b0 : (t193 == 0) = false := beq_eq_false_iff_ne.mpr c20
                          have c20b1 : (t193 != 0) = true := bne_iff_ne.mpr c20
                          (first | rw [c20b0] | (simp only [i64_w, i32_w]; rw [c20b0]) | skip)
                          have H' := Aside0.mk H
                          clear H
                          go_wp2
                          go_meet
                          case rel => exact ⟨_, (true), (by first | rfl | (simp; done) | (simp [*]; done)), H', ⟨by have := HK1.out; have := HK2.out; have := HJ14.out; first | omega | exact Nat.le_refl _⟩, ⟨by repeat (first | (with_reducible first | exact HB.out | apply below_alloc | apply pw_below_drewN | apply below_drew1) | exact HB.out)⟩⟩
                      case rest =>
                        clear HC19
                        try clear c1
                        try clear p1
                        try clear q1
                        try clear hx1
                        try clear c2
                        try clear p2
                        try clear c3
                        try clear c3b0
                        try clear c3b1
                        try clear c6
                        try clear c6b0
                        try clear p6
                        try clear c7
                        try clear c7b0
                        try clear c8
                        try clear c8b0
                        try clear c8b1
                        try clear c9
                        try clear c12
                        try clear c12b0
                        try clear c12b1
                        try clear c12b2
                        try clear c14
                        try clear c14b0
                        try clear c16
                        try clear c16b0
                        try clear c17
                        try clear c18
                        try clear p18
                        try clear q18
                        try clear hx18
                        try clear p19
                        try clear q19
                        try clear hx19
                        try clear c20
                        try clear c20b0
                        try clear c20b1
                        try clear c21
                        try clear c21b0
                        try clear c22
                        try clear c22b0
                        try clear c23
                        try clear c23b0
                        try clear c23b1
                        try clear c24
                        try clear c24b0
                        try clear hx186_0
                        try clear hx188_0
                        try clear hx194_0
                        try clear p1
                        try clear p186
                        try clear p188
                        try clear p194
                        try clear p2
                        try clear p6
                        try clear q1
                        try clear q186
                        try clear q188
                        try clear q194
                        obtain ⟨kq, x78_18, rfl, HA, HJ18, HB⟩ := hcut
                        cases kq with
                        | zero => exact absurd HA.out (by simp [rollcalllaw01_VarintTexts.j3])
                        | succ kj18 =>
                          have H := HA.out
                          clear HA
                          simp only [rollcalllaw01_VarintTexts.j3] at H
                          by_cases c25 : x78_18 = true
                          · subst c25
                            have H1 : (some false) = some r := by rw [if_pos rfl] at H; exact H
                            clear H
                            have H := H1
                            clear H1
                            obtain rfl := Option.some.inj H
                            go_wp2
                            go_ret
                            exact ⟨by first | rfl | (simp [errW_none, errW_some] <;> rfl) | (simp [*, errW_none, errW_some] <;> rfl), by repeat (first | (with_reducible first | exact HB.out | apply below_alloc | apply pw_below_drewN | apply below_drew1) | exact HB.out)⟩
                          · replace c25 := Bool.eq_false_iff.mpr c25
                            subst c25
                            have H1 : (if a1 ≥ x7_2 then (rollcalllaw01_VarintTexts.j4 kj18 l0 a1 x5_1 x7_2 x8_2 t192 (decide (a1 < t192))) else (rollcalllaw01_VarintTexts.j4 kj18 l0 a1 x5_1 x7_2 x8_2 t192 false)) = some r := by rw [if_neg (show ¬ (false = true) by decide)] at H; exact H
                            clear H
                            have H := H1
                            clear H1
                            have HC26 := Aside0.mk H
                            clear H
                            go_upto_region 19 with (fail)
                            go_cut [86] (fun v86 wc => ∃ (kq : Nat) (x86_25 : Bool), v86 = .bool x86_25 ∧ Aside0 (rollcalllaw01_VarintTexts.j4 kq l0 a1 x5_1 x7_2 x8_2 t192 x86_25 = some r) ∧ Aside0 (kq ≤ kj18) ∧ Aside0 (Below w.heap.size w wc))
                            case first =>
                              have H := HC26.out
                              clear HC26
                              by_cases c27 : a1 ≥ x7_2
                              · rw [if_pos c27] at H
                                have c27b0 : decide (x7_2 ≤ a1) = true := decide_eq_true c27
                                clear c27
                                (first | rw [c27b0] | (simp only [i64_w, i32_w]; rw [c27b0]) | skip)
                                have H' := Aside0.mk H
                                clear H
                                go_wp2
                                go_meet
                                case rel => exact ⟨_, (decide (a1 < t192)), (by first | rfl | (simp; done) | (simp [*]; done)), H', ⟨by have := HK1.out; have := HK2.out; have := HJ14.out; have := HJ18.out; first | omega | exact Nat.le_refl _⟩, ⟨by repeat (first | (with_reducible first | exact HB.out | apply below_alloc | apply pw_below_drewN | apply below_drew1) | exact HB.out)⟩⟩
                              · rw [if_neg c27] at H
                                have c27b0 : decide (x7_2 ≤ a1) = false := decide_eq_false c27
                                clear c27
                                (first | rw [c27b0] | (simp only [i64_w, i32_w]; rw [c27b0]) | skip)
                                have H' := Aside0.mk H
                                clear H
                                go_wp2
                                go_meet
                                case rel => exact ⟨_, (false), (by first | rfl | (simp; done) | (simp [*]; done)), H', ⟨by have := HK1.out; have := HK2.out; have := HJ14.out; have := HJ18.out; first | omega | exact Nat.le_refl _⟩, ⟨by repeat (first | (with_reducible first | exact HB.out | apply below_alloc | apply pw_below_drewN | apply below_drew1) | exact HB.out)⟩⟩
                            case rest =>
                              clear HC26
                              try clear c1
                              try clear p1
                              try clear q1
                              try clear hx1
                              try clear c2
                              try clear p2
                              try clear c3
                              try clear c3b0
                              try clear c3b1
                              try clear c6
                              try clear c6b0
                              try clear p6
                              try clear c7
                              try clear c7b0
                              try clear c8
                              try clear c8b0
                              try clear c8b1
                              try clear c9
                              try clear c12
                              try clear c12b0
                              try clear c12b1
                              try clear c12b2
                              try clear c14
                              try clear c14b0
                              try clear c16
                              try clear c16b0
                              try clear c17
                              try clear c18
                              try clear p18
                              try clear q18
                              try clear hx18
                              try clear p19
                              try clear q19
                              try clear hx19
                              try clear c20
                              try clear c20b0
                              try clear c20b1
                              try clear c21
                              try clear c21b0
                              try clear c22
                              try clear c22b0
                              try clear c23
                              try clear c23b0
                              try clear c23b1
                              try clear c24
                              try clear c24b0
                              try clear c25
                              try clear c27
                              try clear c27b0
                              try clear hx186_0
                              try clear hx188_0
                              try clear hx194_0
                              try clear p1
                              try clear p18
                              try clear p186
                              try clear p188
                              try clear p19
                              try clear p194
                              try clear p2
                              try clear p6
                              try clear q1
                              try clear q18
                              try clear q186
                              try clear q188
                              try clear q19
                              try clear q194
                              obtain ⟨kq, x86_25, rfl, HA, HJ25, HB⟩ := hcut
                              cases kq with
                              | zero => exact absurd HA.out (by simp [rollcalllaw01_VarintTexts.j4])
                              | succ kj25 =>
                                have H := HA.out
                                clear HA
                                simp only [rollcalllaw01_VarintTexts.j4] at H
                                by_cases c28 : x86_25 = true
                                · subst c28
                                  have H1 : (if 0 ≤ a1 then (if a1 ≤ (x5_1.size : Int) then ((varint_Take.f kj25 (x5_1.extract 0 (a1 : Int).toNat) x7_2 300).bind fun bt195 => (if bt195.2.2 = 2 then (if bt195.1.toList = ([] : List UInt8) then (rollcalllaw01_VarintTexts.l1 kj25 l0 a1 x5_1 t192 (wrap64 (x8_2 + 1))) else (some false)) else (some false))) else (none)) else (none)) = some r := by rw [if_pos rfl] at H; exact H
                                  clear H
                                  have H := H1
                                  clear H1
                                  by_cases c29 : 0 ≤ a1
                                  · rw [if_pos c29] at H
                                    have c29b0 := eq_true c29
                                    have c29b1 : decide (0 ≤ a1) = true := decide_eq_true c29
                                    clear c29
                                    by_cases c30 : a1 ≤ (x5_1.size : Int)
                                    · rw [if_pos c30] at H
                                      have c30b0 := eq_true c30
                                      have c30b1 : decide (a1 ≤ (x5_1.size : Int)) = true := decide_eq_true c30
                                      clear c30
                                      replace H := Option.bind_eq_some_iff.mp H
                                      obtain ⟨⟨t195, t196, t197⟩, A310, H⟩ := H
                                      replace H : (if t197 = 2 then (if t195.toList = ([] : List UInt8) then (rollcalllaw01_VarintTexts.l1 kj25 l0 a1 x5_1 t192 (wrap64 (x8_2 + 1))) else (some false)) else (some false)) = some r := H
                                      have A31 := Aside0.mk A310
                                      clear A310
                                      by_cases c32 : t197 = 2
                                      · rw [if_pos c32] at H
                                        have c32b0 : (t197 == 2) = true := beq_iff_eq.mpr c32
                                        have c32b1 : (t197 != 2) = false := bne_eq_false_iff_eq.mpr c32
                                        clear c32
                                        by_cases c33 : t195.toList = ([] : List UInt8)
                                        · rw [if_pos c33] at H
                                          have c33b0 : (t195.toList == ([] : List UInt8)) = true := beq_iff_eq.mpr c33
                                          have c33b1 : (t195.toList != ([] : List UInt8)) = false := bne_eq_false_iff_eq.mpr c33
                                          clear c33
                                          have H' := Aside0.mk H
                                          clear H
                                          go_wp2_with (first | ((with_reducible refine gate_callee (f := 18) rfl ?_); refine goesL_ (some 92) rfl rfl Try.func18 (by kernel_rfl) rfl #[.string (x5_1.extract 0 (a1 : Int).toNat), .int .i64 x7_2, .int .i64 300] rfl (by (try simp only [List.map_toArray, List.map_cons, List.map_nil]); first | done | rfl | (simp only [List.length_drop, List.length_take]; rfl)) ?_; (with_reducible refine (varint_Take.calls kj25 (x5_1.extract 0 (a1 : Int).toNat) x7_2 300 t195 t196 t197 _ A31.out).mono ?_); rintro e w' ⟨rfl, ⟨nd, rfl⟩⟩; refine ⟨_, rfl, ?_⟩))
                                          go_roundg kj25
                                          case measure => have := HK1.out; have := HK2.out; have := HJ14.out; have := HJ18.out; have := HJ25.out; omega
                                          case rel => exact ⟨(t192), (wrap64 (x8_2 + 1)), (by first | rfl | (simp; done) | (simp [*]; done)), (by first | rfl | (simp; done) | (simp [*]; done)), H', ⟨by have := HK1.out; have := HK2.out; have := HJ14.out; have := HJ18.out; have := HJ25.out; omega⟩, ⟨by repeat (first | (with_reducible first | exact HB.out | apply below_alloc | apply pw_below_drewN | apply below_drew1) | exact HB.out)⟩⟩
                                        · rw [if_neg c33] at H
                                          have c33b0 : (t195.toList == ([] : List UInt8)) = false := beq_eq_false_iff_ne.mpr c33
                                          have c33b1 : (t195.toList != ([] : List UInt8)) = true := bne_iff_ne.mpr c33
                                          obtain rfl := Option.some.inj H
                                          go_wp2_with (first | ((with_reducible refine gate_callee (f := 18) rfl ?_); refine goesL_ (some 92) rfl rfl Try.func18 (by kernel_rfl) rfl #[.string (x5_1.extract 0 (a1 : Int).toNat), .int .i64 x7_2, .int .i64 300] rfl (by (try simp only [List.map_toArray, List.map_cons, List.map_nil]); first | done | rfl | (simp only [List.length_drop, List.length_take]; rfl)) ?_; (with_reducible refine (varint_Take.calls kj25 (x5_1.extract 0 (a1 : Int).toNat) x7_2 300 t195 t196 t197 _ A31.out).mono ?_); rintro e w' ⟨rfl, ⟨nd, rfl⟩⟩; refine ⟨_, rfl, ?_⟩))
                                          go_ret
                                          exact ⟨by first | rfl | (simp [errW_none, errW_some] <;> rfl) | (simp [*, errW_none, errW_some] <;> rfl), by repeat (first | (with_reducible first | exact HB.out | apply below_alloc | apply pw_below_drewN | apply below_drew1) | exact HB.out)⟩
                                      · rw [if_neg c32] at H
                                        have c32b0 : (t197 == 2) = false := beq_eq_false_iff_ne.mpr c32
                                        have c32b1 : (t197 != 2) = true := bne_iff_ne.mpr c32
                                        obtain rfl := Option.some.inj H
                                        go_wp2_with (first | ((with_reducible refine gate_callee (f := 18) rfl ?_); refine goesL_ (some 92) rfl rfl Try.func18 (by kernel_rfl) rfl #[.string (x5_1.extract 0 (a1 : Int).toNat), .int .i64 x7_2, .int .i64 300] rfl (by (try simp only [List.map_toArray, List.map_cons, List.map_nil]); first | done | rfl | (simp only [List.length_drop, List.length_take]; rfl)) ?_; (with_reducible refine (varint_Take.calls kj25 (x5_1.extract 0 (a1 : Int).toNat) x7_2 300 t195 t196 t197 _ A31.out).mono ?_); rintro e w' ⟨rfl, ⟨nd, rfl⟩⟩; refine ⟨_, rfl, ?_⟩))
                                        go_ret
                                        exact ⟨by first | rfl | (simp [errW_none, errW_some] <;> rfl) | (simp [*, errW_none, errW_some] <;> rfl), by repeat (first | (with_reducible first | exact HB.out | apply below_alloc | apply pw_below_drewN | apply below_drew1) | exact HB.out)⟩
                                    · rw [if_neg c30] at H
                                      exact absurd H (by simp)
                                  · rw [if_neg c29] at H
                                    exact absurd H (by simp)
                                · replace c28 := Bool.eq_false_iff.mpr c28
                                  subst c28
                                  have H1 : (rollcalllaw01_VarintTexts.l1 kj25 l0 a1 x5_1 t192 (wrap64 (x8_2 + 1))) = some r := by rw [if_neg (show ¬ (false = true) by decide)] at H; exact H
                                  clear H
                                  have H := H1
                                  clear H1
                                  have H' := Aside0.mk H
                                  clear H
                                  go_wp2
                                  go_roundg kj25
                                  case measure => have := HK1.out; have := HK2.out; have := HJ14.out; have := HJ18.out; have := HJ25.out; omega
                                  case rel => exact ⟨(t192), (wrap64 (x8_2 + 1)), (by first | rfl | (simp; done) | (simp [*]; done)), (by first | rfl | (simp; done) | (simp [*]; done)), H', ⟨by have := HK1.out; have := HK2.out; have := HJ14.out; have := HJ18.out; have := HJ25.out; omega⟩, ⟨by repeat (first | (with_reducible first | exact HB.out | apply below_alloc | apply pw_below_drewN | apply below_drew1) | exact HB.out)⟩⟩
              · rw [if_neg c14] at H
                have c14b0 : decide (x8_2 < (l0.length : Int)) = false := decide_eq_false c14
                clear c14
                by_cases c34 : x7_2 = (x5_1.size : Int)
                · rw [if_pos c34] at H
                  have c34b0 : (x7_2 == (x5_1.size : Int)) = true := beq_iff_eq.mpr c34
                  have c34b1 : (x7_2 != (x5_1.size : Int)) = false := bne_eq_false_iff_eq.mpr c34
                  clear c34
                  replace H := Option.bind_eq_some_iff.mp H
                  obtain ⟨t190, A350, H⟩ := H
                  replace H : (some t190) = some r := H
                  have A35 := Aside0.mk A350
                  clear A350
                  obtain rfl := Option.some.inj H
                  go_wp2_with (first | (go_at_call 9; (with_reducible refine (rollcalllaw01_live.calls k2  t190 _ A35.out).mono ?_); rintro e w36 ⟨rfl, hb⟩; have n0_ := Aside0.mk (below_step (by repeat (first | (with_reducible first | exact HB.out | apply below_alloc | apply pw_below_drewN | apply below_drew1) | exact HB.out)) hb); clear HB; have HB := n0_; clear n0_; (try clear hb); (try clear hb2); (try clear hk); (try clear hi)))
                  go_ret
                  exact ⟨by first | rfl | (simp [errW_none, errW_some] <;> rfl) | (simp [*, errW_none, errW_some] <;> rfl), by repeat (first | (with_reducible first | exact HB.out | apply below_alloc | apply pw_below_drewN | apply below_drew1) | exact HB.out)⟩
                · rw [if_neg c34] at H
                  have c34b0 : (x7_2 == (x5_1.size : Int)) = false := beq_eq_false_iff_ne.mpr c34
                  have c34b1 : (x7_2 != (x5_1.size : Int)) = true := bne_iff_ne.mpr c34
                  obtain rfl := Option.some.inj H
                  go_wp2
                  go_ret
                  exact ⟨by first | rfl | (simp [errW_none, errW_some] <;> rfl) | (simp [*, errW_none, errW_some] <;> rfl), by repeat (first | (with_reducible first | exact HB.out | apply below_alloc | apply pw_below_drewN | apply below_drew1) | exact HB.out)⟩

/-- THE PURE STATEMENT of rollcalllaw01_VarintTexts. -/
def rollcalllaw01_VarintTexts.Pure : Prop := ∀ (l0 : List ByteArray) (a1 : Int), l0.length ≤ maxLen → (∀ x_ ∈ l0, x_.size ≤ maxLen) → (Lit.int .i64 a1).wf = true → ∃ k, rollcalllaw01_VarintTexts.f k l0 a1 = some true
theorem rollcalllaw01_VarintTexts.walkx (P : rollcalllaw01_VarintTexts.Pure) (A0 : Option Addr) (c0 : Nat) (l0 : List ByteArray) (a1 : Int) (w : World) (hr0 : Kd.C Kd.string w A0 l0.length l0) (hc0 : l0.length ≤ c0) (q0 : l0.length ≤ maxLen) (q1 : (∀ x_ ∈ l0, x_.size ≤ maxLen)) (q2 : (Lit.int .i64 a1).wf = true) :
    Calls Try.prog 6 #[.slice A0 l0.length c0, .int .i64 a1] w fun e w' => e = .returned (.bool true) ∧ Below w.heap.size w w' := by
  obtain ⟨k, h⟩ := P l0 a1 q0 q1 q2
  refine (rollcalllaw01_VarintTexts.calls k A0 c0 l0 a1 true w hr0 hc0 h).mono ?_
  rintro e w' ⟨rfl, hd⟩
  exact ⟨rfl, hd⟩

end Go.Proofs.Ytijlneodilakfaa.PA
