-- Written by a program of this session (wip/tools/xprint.py), which drives the kit's print.
import Derived.Test.YtijlneodilakfaaPAx0
namespace Go.Proofs.Ytijlneodilakfaa.PA
open Go.RowKit Go.Proofs.YtijlneodilakfaaW.PrintWords Go.Proofs.YtijlneodilakfaaW.PrintLast Go.Proofs.YtijlneodilakfaaW.PrintMore
attribute [local go_sem] max2_int min2_int max_two min_two max_three min_three max_four min_four   -- for this text's walks alone
set_option linter.unusedVariables false
set_option linter.unusedSimpArgs false

/-! ### varint_Put: function 10 -/
def varint_Put.l0 : Nat → Int → List Int → Option (ByteArray)
  | 0, _, _ => none
  | k + 1, x0, x3 => if x0 ≥ 128 then (if x3.length < 140737488355328 then (varint_Put.l0 k (x0 / 128) (x3 ++ [Go.bits .or .u8 ((x0) % 256) 128])) else (none)) else (if x3.length < 140737488355328 then (some (strOfNums (x3 ++ [(x0) % 256]))) else (none))
def varint_Put.f (k : Nat) (a0 : Int) : Option (ByteArray) := varint_Put.l0 k a0 ([] : List Int)
theorem varint_Put.mono_l : ∀ k, (∀ y0 y1, LeO (varint_Put.l0 k y0 y1) (varint_Put.l0 (k + 1) y0 y1))
  | 0 => fun _ _ r h => by simp [varint_Put.l0] at h
  | k + 1 => by
    have ih0 := varint_Put.mono_l k
    · intro y0 y1
      unfold varint_Put.l0
      repeat' first
      | (with_reducible exact ih0 _ _)
      | (with_reducible exact LeO.refl _)
      | (with_reducible exact LeO.none _)
      | (with_reducible refine LeO.ite ?_ ?_)
      | (with_reducible refine LeO.bind ?_ (fun _ => ?_))
      | exact ih0 _ _
      | exact LeO.none _
      | refine LeO.ite ?_ ?_
      | refine LeO.bind ?_ (fun _ => ?_)
theorem varint_Put.mono : ∀ a0 k, LeO (varint_Put.f k a0) (varint_Put.f (k + 1) a0) := by
  intro a0 k
  have ih0 := varint_Put.mono_l k
  unfold varint_Put.f
  repeat' first
      | (with_reducible exact ih0 _ _)
      | (with_reducible exact LeO.refl _)
      | (with_reducible exact LeO.none _)
      | (with_reducible refine LeO.ite ?_ ?_)
      | (with_reducible refine LeO.bind ?_ (fun _ => ?_))
      | exact ih0 _ _
      | exact LeO.none _
      | refine LeO.ite ?_ ?_
      | refine LeO.bind ?_ (fun _ => ?_)
set_option maxHeartbeats 8000000 in
set_option maxRecDepth 100000 in
theorem varint_Put.calls (k : Nat) (a0 : Int) (r : ByteArray) (w : World) (h : varint_Put.f k a0 = some r) :
    Calls Try.prog 10 #[.int .u64 a0] w fun e w' => e = .returned (.string r) ∧ Below w.heap.size w w' := by
  have HB := Aside0.mk (Below.refl w.heap.size w)
  have H : (varint_Put.l0 k a0 ([] : List Int)) = some r := h
  clear h
  have H' := Aside0.mk H
  clear H
  go_enter Try.func10, Try.ntmps10
  go_wp2
  go_loopg [0, 3] k (fun kq v0 v3 w' => ∃ (x0_1 : Int) (x3_1 : List Int), v0 = .int .u64 x0_1 ∧ Aside0 (varint_Put.l0 kq x0_1 x3_1 = some r) ∧ Aside0 (kq ≤ k) ∧ Aside0 (Kd.R (Kd.int .u8) 5 w' w.heap.size (fun _ => True) v3 x3_1) ∧ Aside0 (Below w.heap.size w w'))
  case atStart => exact ⟨(a0), (([] : List Int)), (by first | rfl | (simp; done) | (simp [*]; done)), H', ⟨Nat.le_refl _⟩, ⟨by first | exact Kd.R_nil _ _ _ _ _ | exact Kd.N_nil _ _ _ _ _ | exact Kd.V_nil _ _ _ _ _ | exact Kd.Q_nil _ _ _ _ _ | exact Kd.S_nil _ _ _ _ _⟩, ⟨by repeat (first | (with_reducible first | exact HB.out | apply below_alloc | apply pw_below_drewN | apply below_drew1) | exact HB.out)⟩⟩
  case round =>
    clear H'
    try clear c1
    obtain ⟨x0_1, x3_1, rfl, HA, HK1, HO_3, HB⟩ := hrel
    cases gk with
    | zero => exact absurd HA.out (by simp [varint_Put.l0])
    | succ k1 =>
      have H := HA.out
      clear HA
      simp only [varint_Put.l0] at H
      by_cases c2 : x0_1 ≥ 128
      · rw [if_pos c2] at H
        have c2b0 : decide (128 ≤ x0_1) = true := decide_eq_true c2
        clear c2
        by_cases c3 : x3_1.length < 140737488355328
        · rw [if_pos c3] at H
          have LMc3 := Aside0.mk c3
          clear c3
          obtain ⟨y101, hy101⟩ : ∃ y_ : List Int, y_ = (x3_1 ++ [Go.bits .or .u8 ((x0_1) % 256) 128]) := ⟨_, rfl⟩
          replace H : (varint_Put.l0 k1 (x0_1 / 128) y101) = some r := by first | (rw [hy101]; with_reducible exact H) | (have H2_ := (Option.bind_some _ _).symm.trans H; rw [hy101]; with_reducible exact H2_) | (have H2_ := (Option.bind_some _ _).symm.trans H; with_reducible exact H2_) | with_reducible exact H | (rw [hy101]; exact H) | exact H
          have Ny101 := Aside0.mk hy101
          clear hy101
          have H' := Aside0.mk H
          clear H
          go_wp2_with (first | ((with_reducible refine gate_builtin (b := .append) (xs := #[.tmp 8, .tmp 12]) rfl ?_); at_builtin; refine Kd.R_append (Kd.int .u8) (w0 := w) w.heap.size rfl (.tmp 8) (.tmp 12) 40 5 (.int .u8 0) 1 rfl Try.underlying40 info5 rfl (by decide) (by omega) u3 x3_1 (Go.bits .or .u8 ((x0_1) % 256) 128) [.int .u8 (Go.bits .or .u8 ((x0_1) % 256) 128)] (fun _ => True) (fun _ => False) rfl rfl ?aP (fun _ hk => hk.elim) ?aF ?aO ?aB ?aS ?aL ?_; (case aP => exact rfl); (case aB => exact (by repeat (first | (with_reducible first | exact HB.out | apply below_alloc | apply pw_below_drewN | apply below_drew1) | exact HB.out))); (case aF => exact (fun _ _ => trivial)); (case aO => exact (by (with_reducible repeat (first | apply Kd.R_alloc | apply Kd.R_drewN | apply Kd.R_drew)); exact HO_3.out)); (case aS => exact (below_size (by repeat (first | (with_reducible first | exact HB.out | apply below_alloc | apply pw_below_drewN | apply below_drew1) | exact HB.out)))); (case aL => have := LMc3.out; omega); intro v102 w4 ho hb hg hat; rw [← Ny101.out] at ho; have n0_ := Aside0.mk (hb); have n1_ := Aside0.mk (ho); clear HB; clear HO_3; have HB := n0_; have HO103 := n1_; clear n0_ n1_; clear ho hb hg hat))
          go_roundg k1
          case measure => have := HK1.out; omega
          case rel => exact ⟨(x0_1 / 128), (y101), (by first | rfl | (simp; done) | (simp [*]; done)), H', ⟨by have := HK1.out; omega⟩, ⟨by (with_reducible repeat (first | apply Kd.R_alloc | apply Kd.R_drewN | apply Kd.R_drew)); exact HO103.out⟩, ⟨by repeat (first | (with_reducible first | exact HB.out | apply below_alloc | apply pw_below_drewN | apply below_drew1) | exact HB.out)⟩⟩
        · rw [if_neg c3] at H
          exact absurd H (by simp)
      · rw [if_neg c2] at H
        have c2b0 : decide (128 ≤ x0_1) = false := decide_eq_false c2
        clear c2
        by_cases c5 : x3_1.length < 140737488355328
        · rw [if_pos c5] at H
          have LMc5 := Aside0.mk c5
          clear c5
          obtain ⟨y104, hy104⟩ : ∃ y_ : List Int, y_ = (x3_1 ++ [(x0_1) % 256]) := ⟨_, rfl⟩
          replace H : (some (strOfNums y104)) = some r := by first | (rw [hy104]; with_reducible exact H) | (have H2_ := (Option.bind_some _ _).symm.trans H; rw [hy104]; with_reducible exact H2_) | (have H2_ := (Option.bind_some _ _).symm.trans H; with_reducible exact H2_) | with_reducible exact H | (rw [hy104]; exact H) | exact H
          have Ny104 := Aside0.mk hy104
          clear hy104
          obtain rfl := Option.some.inj H
          go_wp2_with (first | ((with_reducible refine gate_builtin (b := .append) (xs := #[.tmp 14, .tmp 17]) rfl ?_); at_builtin; refine Kd.R_append (Kd.int .u8) (w0 := w) w.heap.size rfl (.tmp 14) (.tmp 17) 40 5 (.int .u8 0) 1 rfl Try.underlying40 info5 rfl (by decide) (by omega) u3 x3_1 ((x0_1) % 256) [.int .u8 ((x0_1) % 256)] (fun _ => True) (fun _ => False) rfl rfl ?aP (fun _ hk => hk.elim) ?aF ?aO ?aB ?aS ?aL ?_; (case aP => exact rfl); (case aB => exact (by repeat (first | (with_reducible first | exact HB.out | apply below_alloc | apply pw_below_drewN | apply below_drew1) | exact HB.out))); (case aF => exact (fun _ _ => trivial)); (case aO => exact (by (with_reducible repeat (first | apply Kd.R_alloc | apply Kd.R_drewN | apply Kd.R_drew)); exact HO_3.out)); (case aS => exact (below_size (by repeat (first | (with_reducible first | exact HB.out | apply below_alloc | apply pw_below_drewN | apply below_drew1) | exact HB.out)))); (case aL => have := LMc5.out; omega); intro v105 w6 ho hb hg hat; rw [← Ny104.out] at ho; have n0_ := Aside0.mk (hb); have n1_ := Aside0.mk (ho); clear HB; clear HO_3; have HB := n0_; have HO106 := n1_; clear n0_ n1_; clear ho hb hg hat; have hcv7 := own_string (P := Try.prog) Try.underlying40 Try.underlying5 Try.underlying9 (Kd.own_of_R HO106.out)))
          go_ret
          exact ⟨by first | rfl | (simp [errW_none, errW_some] <;> rfl) | (simp [*, errW_none, errW_some] <;> rfl), by repeat (first | (with_reducible first | exact HB.out | apply below_alloc | apply pw_below_drewN | apply below_drew1) | exact HB.out)⟩
        · rw [if_neg c5] at H
          exact absurd H (by simp)

/-! ### varint_Size: function 12 -/
def varint_Size.f (k : Nat) (a0 : Int) : Option (Int) := (varint_Put.f k a0).bind fun t107 => (some (t107.size : Int))
theorem varint_Size.mono : ∀ a0 k, LeO (varint_Size.f k a0) (varint_Size.f (k + 1) a0) := by
  intro a0 k
  unfold varint_Size.f
  repeat' first
      | (with_reducible exact varint_Put.mono _ _)
      | (with_reducible exact LeO.refl _)
      | (with_reducible exact LeO.none _)
      | (with_reducible refine LeO.ite ?_ ?_)
      | (with_reducible refine LeO.bind ?_ (fun _ => ?_))
      | exact varint_Put.mono _ _
      | exact LeO.none _
      | refine LeO.ite ?_ ?_
      | refine LeO.bind ?_ (fun _ => ?_)
set_option maxHeartbeats 8000000 in
set_option maxRecDepth 100000 in
theorem varint_Size.calls (k : Nat) (a0 : Int) (r : Int) (w : World) (h : varint_Size.f k a0 = some r) :
    Calls Try.prog 12 #[.int .u64 a0] w fun e w' => e = .returned (.int .i64 r) ∧ Below w.heap.size w w' := by
  have HB := Aside0.mk (Below.refl w.heap.size w)
  have H : ((varint_Put.f k a0).bind fun t107 => (some (t107.size : Int))) = some r := h
  clear h
  replace H := Option.bind_eq_some_iff.mp H
  obtain ⟨t107, A20, H⟩ := H
  replace H : (some (t107.size : Int)) = some r := H
  have A2 := Aside0.mk A20
  clear A20
  obtain rfl := Option.some.inj H
  go_enter Try.func12, Try.ntmps12
  go_wp2_with (first | ((with_reducible refine gate_callee (f := 10) rfl ?_); refine goesL_ (some 4) rfl rfl Try.func10 (by kernel_rfl) rfl #[.int .u64 a0] rfl (by (try simp only [List.map_toArray, List.map_cons, List.map_nil]); first | done | rfl | (simp only [List.length_drop, List.length_take]; rfl)) ?_; (with_reducible refine (varint_Put.calls k a0 t107 _ A2.out).mono ?_); rintro e w3 ⟨rfl, hb⟩; refine ⟨_, rfl, ?_⟩; have n0_ := Aside0.mk (below_step (by repeat (first | (with_reducible first | exact HB.out | apply below_alloc | apply pw_below_drewN | apply below_drew1) | exact HB.out)) hb); clear HB; have HB := n0_; clear n0_; (try clear hb); (try clear hb2); (try clear hk); (try clear hi)))
  go_ret
  exact ⟨by first | rfl | (simp [errW_none, errW_some] <;> rfl) | (simp [*, errW_none, errW_some] <;> rfl), by repeat (first | (with_reducible first | exact HB.out | apply below_alloc | apply pw_below_drewN | apply below_drew1) | exact HB.out)⟩

/-! ### varint_Text: function 14 -/
def varint_Text.f (k : Nat) (a0 : ByteArray) : Option (ByteArray) := (varint_Put.f k (IntKind.u64.wrap ((a0.size : Int)))).bind fun t108 => (if t108.size + a0.size ≤ 9223372036854775807 then (some (t108 ++ a0)) else (none))
theorem varint_Text.mono : ∀ a0 k, LeO (varint_Text.f k a0) (varint_Text.f (k + 1) a0) := by
  intro a0 k
  unfold varint_Text.f
  repeat' first
      | (with_reducible exact varint_Put.mono _ _)
      | (with_reducible exact LeO.refl _)
      | (with_reducible exact LeO.none _)
      | (with_reducible refine LeO.ite ?_ ?_)
      | (with_reducible refine LeO.bind ?_ (fun _ => ?_))
      | exact varint_Put.mono _ _
      | exact LeO.none _
      | refine LeO.ite ?_ ?_
      | refine LeO.bind ?_ (fun _ => ?_)
set_option maxHeartbeats 8000000 in
set_option maxRecDepth 100000 in
theorem varint_Text.calls (k : Nat) (a0 : ByteArray) (r : ByteArray) (w : World) (h : varint_Text.f k a0 = some r) :
    Calls Try.prog 14 #[.string a0] w fun e w' => e = .returned (.string r) ∧ Below w.heap.size w w' := by
  have HB := Aside0.mk (Below.refl w.heap.size w)
  have H : ((varint_Put.f k (IntKind.u64.wrap ((a0.size : Int)))).bind fun t108 => (if t108.size + a0.size ≤ 9223372036854775807 then (some (t108 ++ a0)) else (none))) = some r := h
  clear h
  replace H := Option.bind_eq_some_iff.mp H
  obtain ⟨t108, A20, H⟩ := H
  replace H : (if t108.size + a0.size ≤ 9223372036854775807 then (some (t108 ++ a0)) else (none)) = some r := H
  have A2 := Aside0.mk A20
  clear A20
  by_cases c3 : t108.size + a0.size ≤ 9223372036854775807
  · rw [if_pos c3] at H
    have c3b0 := eq_true c3
    have c3b1 : decide (t108.size + a0.size ≤ 9223372036854775807) = true := decide_eq_true c3
    try have c3b2 : (9223372036854775807 < t108.size + a0.size) = False := eq_false (Nat.not_lt.2 c3)
    (try (have c3b3 := c3b0; simp only [ByteArray.size_append] at c3b3))
    (try (have c3b4 := c3b2; simp only [ByteArray.size_append] at c3b4))
    clear c3
    obtain rfl := Option.some.inj H
    go_enter Try.func14, Try.ntmps14
    go_wp2_with (first | ((with_reducible refine gate_callee (f := 10) rfl ?_); refine goesL_ (some 6) rfl rfl Try.func10 (by kernel_rfl) rfl #[.int .u64 (IntKind.u64.wrap ((a0.size : Int)))] rfl (by (try simp only [List.map_toArray, List.map_cons, List.map_nil]); first | done | rfl | (simp only [List.length_drop, List.length_take]; rfl)) ?_; (with_reducible refine (varint_Put.calls k (IntKind.u64.wrap ((a0.size : Int))) t108 _ A2.out).mono ?_); rintro e w4 ⟨rfl, hb⟩; refine ⟨_, rfl, ?_⟩; have n0_ := Aside0.mk (below_step (by repeat (first | (with_reducible first | exact HB.out | apply below_alloc | apply pw_below_drewN | apply below_drew1) | exact HB.out)) hb); clear HB; have HB := n0_; clear n0_; (try clear hb); (try clear hb2); (try clear hk); (try clear hi)))
    go_ret
    exact ⟨by first | rfl | (simp [errW_none, errW_some] <;> rfl) | (simp [*, errW_none, errW_some] <;> rfl), by repeat (first | (with_reducible first | exact HB.out | apply below_alloc | apply pw_below_drewN | apply below_drew1) | exact HB.out)⟩
  · rw [if_neg c3] at H
    exact absurd H (by simp)

/-! ### varint_Get: function 16 -/
abbrev varint_Get.f := @Go.Proofs.Ytijlneodilakfaa.XGet.varint_Get.f
set_option maxHeartbeats 1000000 in
theorem varint_Get.calls (a0 : ByteArray) (a1 : Int) (r1 : Int) (r2 : Int) (r3 : Int) (w : World) (h : varint_Get.f a0 a1 = some (r1, r2, r3)) :
    Calls Try.prog 16 #[.string a0, .int .i64 a1] w fun e w' => e = .returned (.tuple #[.int .u64 r1, .int .i64 r2, .int .i64 r3]) ∧ Drawn0 w w' := Go.Proofs.Ytijlneodilakfaa.XGet.varint_Get.calls a0 a1 r1 r2 r3 w h

/-! ### varint_Take: function 18 -/
def varint_Take.j0 : Nat → ByteArray → Int → Int → Bool → Option (ByteArray × Int × Int)
  | 0, _, _, _, _ => none
  | k + 1, x0, x9, x10, x24 => if x24 = true then (some ((⟨#[]⟩ : ByteArray), 0, 3)) else (if x9 > (IntKind.u64.wrap (wrap64 ((x0.size : Int) - x10))) then (some ((⟨#[]⟩ : ByteArray), 0, 2)) else (if 0 ≤ x10 then (if x10 ≤ (wrap64 (x10 + (wrap64 (x9)))) then (if (wrap64 (x10 + (wrap64 (x9)))) ≤ (x0.size : Int) then (some (x0.extract (x10 : Int).toNat ((wrap64 (x10 + (wrap64 (x9)))) : Int).toNat, wrap64 (x10 + (wrap64 (x9))), 0)) else (none)) else (none)) else (none)))
def varint_Take.f (k : Nat) (a0 : ByteArray) (a1 : Int) (a2 : Int) : Option (ByteArray × Int × Int) := (varint_Get.f a0 a1).bind fun bt109 => (if bt109.2.2 = 0 then (if a2 < 0 then (varint_Take.j0 k a0 bt109.1 bt109.2.1 true) else (varint_Take.j0 k a0 bt109.1 bt109.2.1 (decide (bt109.1 > (IntKind.u64.wrap (a2)))))) else (some ((⟨#[]⟩ : ByteArray), 0, bt109.2.2)))
theorem varint_Take.mono_l : ∀ k, (∀ y0 y1 y2 y3, LeO (varint_Take.j0 k y0 y1 y2 y3) (varint_Take.j0 (k + 1) y0 y1 y2 y3))
  | 0 => fun _ _ _ _ r h => by simp [varint_Take.j0] at h
  | k + 1 => by
    have ih0 := varint_Take.mono_l k
    · intro y0 y1 y2 y3
      unfold varint_Take.j0
      repeat' first
      | (with_reducible exact ih0 _ _ _ _)
      | (with_reducible exact LeO.refl _)
      | (with_reducible exact LeO.none _)
      | (with_reducible refine LeO.ite ?_ ?_)
      | (with_reducible refine LeO.bind ?_ (fun _ => ?_))
      | exact ih0 _ _ _ _
      | exact LeO.none _
      | refine LeO.ite ?_ ?_
      | refine LeO.bind ?_ (fun _ => ?_)
theorem varint_Take.mono : ∀ a0 a1 a2 k, LeO (varint_Take.f k a0 a1 a2) (varint_Take.f (k + 1) a0 a1 a2) := by
  intro a0 a1 a2 k
  have ih0 := varint_Take.mono_l k
  unfold varint_Take.f
  repeat' first
      | (with_reducible exact ih0 _ _ _ _)
      | (with_reducible exact LeO.refl _)
      | (with_reducible exact LeO.none _)
      | (with_reducible refine LeO.ite ?_ ?_)
      | (with_reducible refine LeO.bind ?_ (fun _ => ?_))
      | exact ih0 _ _ _ _
      | exact LeO.none _
      | refine LeO.ite ?_ ?_
      | refine LeO.bind ?_ (fun _ => ?_)
set_option maxHeartbeats 8000000 in
set_option maxRecDepth 100000 in
theorem varint_Take.calls (k : Nat) (a0 : ByteArray) (a1 : Int) (a2 : Int) (r1 : ByteArray) (r2 : Int) (r3 : Int) (w : World) (h : varint_Take.f k a0 a1 a2 = some (r1, r2, r3)) :
    Calls Try.prog 18 #[.string a0, .int .i64 a1, .int .i64 a2] w fun e w' => e = .returned (.tuple #[.string r1, .int .i64 r2, .int .i64 r3]) ∧ Drawn0 w w' := by
  have H : ((varint_Get.f a0 a1).bind fun bt109 => (if bt109.2.2 = 0 then (if a2 < 0 then (varint_Take.j0 k a0 bt109.1 bt109.2.1 true) else (varint_Take.j0 k a0 bt109.1 bt109.2.1 (decide (bt109.1 > (IntKind.u64.wrap (a2)))))) else (some ((⟨#[]⟩ : ByteArray), 0, bt109.2.2)))) = some (r1, r2, r3) := h
  clear h
  replace H := Option.bind_eq_some_iff.mp H
  obtain ⟨⟨t109, t110, t111⟩, A40, H⟩ := H
  replace H : (if t111 = 0 then (if a2 < 0 then (varint_Take.j0 k a0 t109 t110 true) else (varint_Take.j0 k a0 t109 t110 (decide (t109 > (IntKind.u64.wrap (a2)))))) else (some ((⟨#[]⟩ : ByteArray), 0, t111))) = some (r1, r2, r3) := H
  have A4 := Aside0.mk A40
  clear A40
  by_cases c5 : t111 = 0
  · rw [if_pos c5] at H
    have c5b0 : (t111 == 0) = true := beq_iff_eq.mpr c5
    have c5b1 : (t111 != 0) = false := bne_eq_false_iff_eq.mpr c5
    clear c5
    have HC6 := Aside0.mk H
    clear H
    go_enter Try.func18, Try.ntmps18
    go_upto_region 4 with (first | ((with_reducible refine gate_callee (f := 16) rfl ?_); refine goesL_ (some 16) rfl rfl Try.func16 (by kernel_rfl) rfl #[.string a0, .int .i64 a1] rfl (by (try simp only [List.map_toArray, List.map_cons, List.map_nil]); first | done | rfl | (simp only [List.length_drop, List.length_take]; rfl)) ?_; (with_reducible refine (varint_Get.calls a0 a1 t109 t110 t111 _ A4.out).mono ?_); rintro e w' ⟨rfl, ⟨nd, rfl⟩⟩; refine ⟨_, rfl, ?_⟩))
    (try simp only [Act.put, List.setIfInBounds_toArray, List.set_cons_zero, List.set_cons_succ])
    go_cut [24] (fun v24 wc => ∃ (kq : Nat) (x24_5 : Bool), v24 = .bool x24_5 ∧ Aside0 (varint_Take.j0 kq a0 t109 t110 x24_5 = some (r1, r2, r3)) ∧ Aside0 (kq ≤ k) ∧ Drawn0 w wc)
    case first =>
      have H := HC6.out
      clear HC6
      by_cases c7 : a2 < 0
      · rw [if_pos c7] at H
        have c7b0 : decide (a2 < 0) = true := decide_eq_true c7
        clear c7
        (first | rw [c7b0] | (simp only [i64_w, i32_w]; rw [c7b0]) | skip)
        have H' := Aside0.mk H
        clear H
        go_wp2
        go_meet
        case rel => exact ⟨_, (true), (by first | rfl | (simp; done) | (simp [*]; done)), H', ⟨by first | omega | exact Nat.le_refl _⟩, by repeat (first | exact Drawn0.refl _ | apply Drawn0.step)⟩
      · rw [if_neg c7] at H
        have c7b0 : decide (a2 < 0) = false := decide_eq_false c7
        clear c7
        (first | rw [c7b0] | (simp only [i64_w, i32_w]; rw [c7b0]) | skip)
        have H' := Aside0.mk H
        clear H
        go_wp2
        go_meet
        case rel => exact ⟨_, (decide (t109 > (IntKind.u64.wrap (a2)))), (by first | rfl | (simp; done) | (simp [*]; done)), H', ⟨by first | omega | exact Nat.le_refl _⟩, by repeat (first | exact Drawn0.refl _ | apply Drawn0.step)⟩
    case rest =>
      clear HC6
      try clear c1
      try clear p2
      try clear c5
      try clear c5b0
      try clear c5b1
      try clear c7
      try clear c7b0
      obtain ⟨kq, x24_5, rfl, HA, HJ5, ⟨mc5, rfl⟩⟩ := hcut
      cases kq with
      | zero => exact absurd HA.out (by simp [varint_Take.j0])
      | succ kj5 =>
        have H := HA.out
        clear HA
        simp only [varint_Take.j0] at H
        by_cases c8 : x24_5 = true
        · subst c8
          have H1 : (some ((⟨#[]⟩ : ByteArray), 0, 3)) = some (r1, r2, r3) := by rw [if_pos rfl] at H; exact H
          clear H
          have H := H1
          clear H1
          simp only [Option.some.injEq, Prod.mk.injEq] at H
          obtain ⟨rfl, rfl, rfl⟩ := H
          go_wp2
          go_ret3
          exact ⟨by first | rfl | (simp; done) | (simp [*]; done), by repeat (first | exact Drawn0.refl _ | apply Drawn0.step)⟩
        · replace c8 := Bool.eq_false_iff.mpr c8
          subst c8
          have H1 : (if t109 > (IntKind.u64.wrap (wrap64 ((a0.size : Int) - t110))) then (some ((⟨#[]⟩ : ByteArray), 0, 2)) else (if 0 ≤ t110 then (if t110 ≤ (wrap64 (t110 + (wrap64 (t109)))) then (if (wrap64 (t110 + (wrap64 (t109)))) ≤ (a0.size : Int) then (some (a0.extract (t110 : Int).toNat ((wrap64 (t110 + (wrap64 (t109)))) : Int).toNat, wrap64 (t110 + (wrap64 (t109))), 0)) else (none)) else (none)) else (none))) = some (r1, r2, r3) := by rw [if_neg (show ¬ (false = true) by decide)] at H; exact H
          clear H
          have H := H1
          clear H1
          by_cases c9 : t109 > (IntKind.u64.wrap (wrap64 ((a0.size : Int) - t110)))
          · rw [if_pos c9] at H
            have c9b0 : decide ((IntKind.u64.wrap (wrap64 ((a0.size : Int) - t110))) < t109) = true := decide_eq_true c9
            clear c9
            simp only [Option.some.injEq, Prod.mk.injEq] at H
            obtain ⟨rfl, rfl, rfl⟩ := H
            go_wp2
            go_ret3
            exact ⟨by first | rfl | (simp; done) | (simp [*]; done), by repeat (first | exact Drawn0.refl _ | apply Drawn0.step)⟩
          · rw [if_neg c9] at H
            have c9b0 : decide ((IntKind.u64.wrap (wrap64 ((a0.size : Int) - t110))) < t109) = false := decide_eq_false c9
            clear c9
            by_cases c10 : 0 ≤ t110
            · rw [if_pos c10] at H
              have c10b0 := eq_true c10
              have c10b1 : decide (0 ≤ t110) = true := decide_eq_true c10
              clear c10
              by_cases c11 : t110 ≤ (wrap64 (t110 + (wrap64 (t109))))
              · rw [if_pos c11] at H
                have c11b0 := eq_true c11
                have c11b1 : decide (t110 ≤ (wrap64 (t110 + (wrap64 (t109))))) = true := decide_eq_true c11
                by_cases c12 : (wrap64 (t110 + (wrap64 (t109)))) ≤ (a0.size : Int)
                · rw [if_pos c12] at H
                  have c12b0 := eq_true c12
                  have c12b1 : decide ((wrap64 (t110 + (wrap64 (t109)))) ≤ (a0.size : Int)) = true := decide_eq_true c12
                  simp only [Option.some.injEq, Prod.mk.injEq] at H
                  obtain ⟨rfl, rfl, rfl⟩ := H
                  go_wp2
                  go_ret3
                  exact ⟨by first | rfl | (simp; done) | (simp [*]; done), by repeat (first | exact Drawn0.refl _ | apply Drawn0.step)⟩
                · rw [if_neg c12] at H
                  exact absurd H (by simp)
              · rw [if_neg c11] at H
                exact absurd H (by simp)
            · rw [if_neg c10] at H
              exact absurd H (by simp)
  · rw [if_neg c5] at H
    have c5b0 : (t111 == 0) = false := beq_eq_false_iff_ne.mpr c5
    have c5b1 : (t111 != 0) = true := bne_iff_ne.mpr c5
    simp only [Option.some.injEq, Prod.mk.injEq] at H
    obtain ⟨rfl, rfl, rfl⟩ := H
    go_enter Try.func18, Try.ntmps18
    go_wp2_with (first | ((with_reducible refine gate_callee (f := 16) rfl ?_); refine goesL_ (some 16) rfl rfl Try.func16 (by kernel_rfl) rfl #[.string a0, .int .i64 a1] rfl (by (try simp only [List.map_toArray, List.map_cons, List.map_nil]); first | done | rfl | (simp only [List.length_drop, List.length_take]; rfl)) ?_; (with_reducible refine (varint_Get.calls a0 a1 t109 t110 t111 _ A4.out).mono ?_); rintro e w' ⟨rfl, ⟨nd, rfl⟩⟩; refine ⟨_, rfl, ?_⟩))
    go_ret3
    exact ⟨by first | rfl | (simp; done) | (simp [*]; done), by repeat (first | exact Drawn0.refl _ | apply Drawn0.step)⟩

/-! ### rollcalllaw01_live: function 9 -/
def rollcalllaw01_live.f (k : Nat)  : Option (Bool) := (varint_Get.f (⟨#[120, 172, 2, 121]⟩ : ByteArray) 1).bind fun bt112 => ((varint_Get.f (⟨#[172]⟩ : ByteArray) 0).bind fun bt115 => ((varint_Get.f (⟨#[128, 0]⟩ : ByteArray) 0).bind fun bt118 => ((varint_Get.f (⟨#[120]⟩ : ByteArray) 2).bind fun bt121 => ((varint_Take.f k (⟨#[2, 104, 105, 120]⟩ : ByteArray) 0 9).bind fun bt124 => ((varint_Take.f k (⟨#[2, 104, 105, 120]⟩ : ByteArray) 0 1).bind fun bt127 => ((varint_Take.f k (⟨#[5, 104, 105, 120]⟩ : ByteArray) 0 9).bind fun bt130 => ((varint_Put.f k 300).bind fun t133 => (if t133.toList = ([172, 2] : List UInt8) then ((varint_Put.f k 0).bind fun t134 => (if t134.toList = ([0] : List UInt8) then ((varint_Size.f k 300).bind fun t135 => (if t135 = 2 then (if bt112.1 = 300 then (if bt112.2.1 = 3 then (if bt112.2.2 = 0 then (if bt115.2.2 = 2 then (if bt118.2.2 = 3 then (if bt121.2.2 = 1 then ((varint_Text.f k (⟨#[104, 105]⟩ : ByteArray)).bind fun t136 => (if t136.toList = ([2, 104, 105] : List UInt8) then (if bt124.1.toList = ([104, 105] : List UInt8) then (if bt124.2.1 = 3 then (if bt124.2.2 = 0 then (if bt127.2.2 = 3 then (some (bt130.2.2 == 2)) else (some false)) else (some false)) else (some false)) else (some false)) else (some false))) else (some false)) else (some false)) else (some false)) else (some false)) else (some false)) else (some false)) else (some false))) else (some false))) else (some false)))))))))
theorem rollcalllaw01_live.mono : ∀ k, LeO (rollcalllaw01_live.f k ) (rollcalllaw01_live.f (k + 1) ) := by
  intro  k
  unfold rollcalllaw01_live.f
  repeat' first
      | (with_reducible exact varint_Put.mono _ _)
      | (with_reducible exact varint_Size.mono _ _)
      | (with_reducible exact varint_Take.mono _ _ _ _)
      | (with_reducible exact varint_Text.mono _ _)
      | (with_reducible exact LeO.refl _)
      | (with_reducible exact LeO.none _)
      | (with_reducible refine LeO.ite ?_ ?_)
      | (with_reducible refine LeO.bind ?_ (fun _ => ?_))
      | exact varint_Put.mono _ _
      | exact varint_Size.mono _ _
      | exact varint_Take.mono _ _ _ _
      | exact varint_Text.mono _ _
      | exact LeO.none _
      | refine LeO.ite ?_ ?_
      | refine LeO.bind ?_ (fun _ => ?_)
set_option maxHeartbeats 8000000 in
set_option maxRecDepth 100000 in
theorem rollcalllaw01_live.callsT (k : Nat)  (r : Bool) (hT_ : r = true) (w : World) (h : rollcalllaw01_live.f k  = some r) :
    Calls Try.prog 9 #[] w fun e w' => e = .returned (.bool r) ∧ Below w.heap.size w w' := by
  have HT := Aside0.mk hT_
  clear hT_
  have HB := Aside0.mk (Below.refl w.heap.size w)
  have H : ((varint_Get.f (⟨#[120, 172, 2, 121]⟩ : ByteArray) 1).bind fun bt112 => ((varint_Get.f (⟨#[172]⟩ : ByteArray) 0).bind fun bt115 => ((varint_Get.f (⟨#[128, 0]⟩ : ByteArray) 0).bind fun bt118 => ((varint_Get.f (⟨#[120]⟩ : ByteArray) 2).bind fun bt121 => ((varint_Take.f k (⟨#[2, 104, 105, 120]⟩ : ByteArray) 0 9).bind fun bt124 => ((varint_Take.f k (⟨#[2, 104, 105, 120]⟩ : ByteArray) 0 1).bind fun bt127 => ((varint_Take.f k (⟨#[5, 104, 105, 120]⟩ : ByteArray) 0 9).bind fun bt130 => ((varint_Put.f k 300).bind fun t133 => (if t133.toList = ([172, 2] : List UInt8) then ((varint_Put.f k 0).bind fun t134 => (if t134.toList = ([0] : List UInt8) then ((varint_Size.f k 300).bind fun t135 => (if t135 = 2 then (if bt112.1 = 300 then (if bt112.2.1 = 3 then (if bt112.2.2 = 0 then (if bt115.2.2 = 2 then (if bt118.2.2 = 3 then (if bt121.2.2 = 1 then ((varint_Text.f k (⟨#[104, 105]⟩ : ByteArray)).bind fun t136 => (if t136.toList = ([2, 104, 105] : List UInt8) then (if bt124.1.toList = ([104, 105] : List UInt8) then (if bt124.2.1 = 3 then (if bt124.2.2 = 0 then (if bt127.2.2 = 3 then (some (bt130.2.2 == 2)) else (some false)) else (some false)) else (some false)) else (some false)) else (some false))) else (some false)) else (some false)) else (some false)) else (some false)) else (some false)) else (some false)) else (some false))) else (some false))) else (some false)))))))))) = some r := h
  clear h
  replace H := Option.bind_eq_some_iff.mp H
  obtain ⟨⟨t112, t113, t114⟩, A10, H⟩ := H
  replace H : ((varint_Get.f (⟨#[172]⟩ : ByteArray) 0).bind fun bt115 => ((varint_Get.f (⟨#[128, 0]⟩ : ByteArray) 0).bind fun bt118 => ((varint_Get.f (⟨#[120]⟩ : ByteArray) 2).bind fun bt121 => ((varint_Take.f k (⟨#[2, 104, 105, 120]⟩ : ByteArray) 0 9).bind fun bt124 => ((varint_Take.f k (⟨#[2, 104, 105, 120]⟩ : ByteArray) 0 1).bind fun bt127 => ((varint_Take.f k (⟨#[5, 104, 105, 120]⟩ : ByteArray) 0 9).bind fun bt130 => ((varint_Put.f k 300).bind fun t133 => (if t133.toList = ([172, 2] : List UInt8) then ((varint_Put.f k 0).bind fun t134 => (if t134.toList = ([0] : List UInt8) then ((varint_Size.f k 300).bind fun t135 => (if t135 = 2 then (if t112 = 300 then (if t113 = 3 then (if t114 = 0 then (if bt115.2.2 = 2 then (if bt118.2.2 = 3 then (if bt121.2.2 = 1 then ((varint_Text.f k (⟨#[104, 105]⟩ : ByteArray)).bind fun t136 => (if t136.toList = ([2, 104, 105] : List UInt8) then (if bt124.1.toList = ([104, 105] : List UInt8) then (if bt124.2.1 = 3 then (if bt124.2.2 = 0 then (if bt127.2.2 = 3 then (some (bt130.2.2 == 2)) else (some false)) else (some false)) else (some false)) else (some false)) else (some false))) else (some false)) else (some false)) else (some false)) else (some false)) else (some false)) else (some false)) else (some false))) else (some false))) else (some false))))))))) = some r := H
  have A1 := Aside0.mk A10
  clear A10
  replace H := Option.bind_eq_some_iff.mp H
  obtain ⟨⟨t115, t116, t117⟩, A20, H⟩ := H
  replace H : ((varint_Get.f (⟨#[128, 0]⟩ : ByteArray) 0).bind fun bt118 => ((varint_Get.f (⟨#[120]⟩ : ByteArray) 2).bind fun bt121 => ((varint_Take.f k (⟨#[2, 104, 105, 120]⟩ : ByteArray) 0 9).bind fun bt124 => ((varint_Take.f k (⟨#[2, 104, 105, 120]⟩ : ByteArray) 0 1).bind fun bt127 => ((varint_Take.f k (⟨#[5, 104, 105, 120]⟩ : ByteArray) 0 9).bind fun bt130 => ((varint_Put.f k 300).bind fun t133 => (if t133.toList = ([172, 2] : List UInt8) then ((varint_Put.f k 0).bind fun t134 => (if t134.toList = ([0] : List UInt8) then ((varint_Size.f k 300).bind fun t135 => (if t135 = 2 then (if t112 = 300 then (if t113 = 3 then (if t114 = 0 then (if t117 = 2 then (if bt118.2.2 = 3 then (if bt121.2.2 = 1 then ((varint_Text.f k (⟨#[104, 105]⟩ : ByteArray)).bind fun t136 => (if t136.toList = ([2, 104, 105] : List UInt8) then (if bt124.1.toList = ([104, 105] : List UInt8) then (if bt124.2.1 = 3 then (if bt124.2.2 = 0 then (if bt127.2.2 = 3 then (some (bt130.2.2 == 2)) else (some false)) else (some false)) else (some false)) else (some false)) else (some false))) else (some false)) else (some false)) else (some false)) else (some false)) else (some false)) else (some false)) else (some false))) else (some false))) else (some false)))))))) = some r := H
  have A2 := Aside0.mk A20
  clear A20
  replace H := Option.bind_eq_some_iff.mp H
  obtain ⟨⟨t118, t119, t120⟩, A30, H⟩ := H
  replace H : ((varint_Get.f (⟨#[120]⟩ : ByteArray) 2).bind fun bt121 => ((varint_Take.f k (⟨#[2, 104, 105, 120]⟩ : ByteArray) 0 9).bind fun bt124 => ((varint_Take.f k (⟨#[2, 104, 105, 120]⟩ : ByteArray) 0 1).bind fun bt127 => ((varint_Take.f k (⟨#[5, 104, 105, 120]⟩ : ByteArray) 0 9).bind fun bt130 => ((varint_Put.f k 300).bind fun t133 => (if t133.toList = ([172, 2] : List UInt8) then ((varint_Put.f k 0).bind fun t134 => (if t134.toList = ([0] : List UInt8) then ((varint_Size.f k 300).bind fun t135 => (if t135 = 2 then (if t112 = 300 then (if t113 = 3 then (if t114 = 0 then (if t117 = 2 then (if t120 = 3 then (if bt121.2.2 = 1 then ((varint_Text.f k (⟨#[104, 105]⟩ : ByteArray)).bind fun t136 => (if t136.toList = ([2, 104, 105] : List UInt8) then (if bt124.1.toList = ([104, 105] : List UInt8) then (if bt124.2.1 = 3 then (if bt124.2.2 = 0 then (if bt127.2.2 = 3 then (some (bt130.2.2 == 2)) else (some false)) else (some false)) else (some false)) else (some false)) else (some false))) else (some false)) else (some false)) else (some false)) else (some false)) else (some false)) else (some false)) else (some false))) else (some false))) else (some false))))))) = some r := H
  have A3 := Aside0.mk A30
  clear A30
  replace H := Option.bind_eq_some_iff.mp H
  obtain ⟨⟨t121, t122, t123⟩, A40, H⟩ := H
  replace H : ((varint_Take.f k (⟨#[2, 104, 105, 120]⟩ : ByteArray) 0 9).bind fun bt124 => ((varint_Take.f k (⟨#[2, 104, 105, 120]⟩ : ByteArray) 0 1).bind fun bt127 => ((varint_Take.f k (⟨#[5, 104, 105, 120]⟩ : ByteArray) 0 9).bind fun bt130 => ((varint_Put.f k 300).bind fun t133 => (if t133.toList = ([172, 2] : List UInt8) then ((varint_Put.f k 0).bind fun t134 => (if t134.toList = ([0] : List UInt8) then ((varint_Size.f k 300).bind fun t135 => (if t135 = 2 then (if t112 = 300 then (if t113 = 3 then (if t114 = 0 then (if t117 = 2 then (if t120 = 3 then (if t123 = 1 then ((varint_Text.f k (⟨#[104, 105]⟩ : ByteArray)).bind fun t136 => (if t136.toList = ([2, 104, 105] : List UInt8) then (if bt124.1.toList = ([104, 105] : List UInt8) then (if bt124.2.1 = 3 then (if bt124.2.2 = 0 then (if bt127.2.2 = 3 then (some (bt130.2.2 == 2)) else (some false)) else (some false)) else (some false)) else (some false)) else (some false))) else (some false)) else (some false)) else (some false)) else (some false)) else (some false)) else (some false)) else (some false))) else (some false))) else (some false)))))) = some r := H
  have A4 := Aside0.mk A40
  clear A40
  replace H := Option.bind_eq_some_iff.mp H
  obtain ⟨⟨t124, t125, t126⟩, A50, H⟩ := H
  replace H : ((varint_Take.f k (⟨#[2, 104, 105, 120]⟩ : ByteArray) 0 1).bind fun bt127 => ((varint_Take.f k (⟨#[5, 104, 105, 120]⟩ : ByteArray) 0 9).bind fun bt130 => ((varint_Put.f k 300).bind fun t133 => (if t133.toList = ([172, 2] : List UInt8) then ((varint_Put.f k 0).bind fun t134 => (if t134.toList = ([0] : List UInt8) then ((varint_Size.f k 300).bind fun t135 => (if t135 = 2 then (if t112 = 300 then (if t113 = 3 then (if t114 = 0 then (if t117 = 2 then (if t120 = 3 then (if t123 = 1 then ((varint_Text.f k (⟨#[104, 105]⟩ : ByteArray)).bind fun t136 => (if t136.toList = ([2, 104, 105] : List UInt8) then (if t124.toList = ([104, 105] : List UInt8) then (if t125 = 3 then (if t126 = 0 then (if bt127.2.2 = 3 then (some (bt130.2.2 == 2)) else (some false)) else (some false)) else (some false)) else (some false)) else (some false))) else (some false)) else (some false)) else (some false)) else (some false)) else (some false)) else (some false)) else (some false))) else (some false))) else (some false))))) = some r := H
  have A5 := Aside0.mk A50
  clear A50
  replace H := Option.bind_eq_some_iff.mp H
  obtain ⟨⟨t127, t128, t129⟩, A60, H⟩ := H
  replace H : ((varint_Take.f k (⟨#[5, 104, 105, 120]⟩ : ByteArray) 0 9).bind fun bt130 => ((varint_Put.f k 300).bind fun t133 => (if t133.toList = ([172, 2] : List UInt8) then ((varint_Put.f k 0).bind fun t134 => (if t134.toList = ([0] : List UInt8) then ((varint_Size.f k 300).bind fun t135 => (if t135 = 2 then (if t112 = 300 then (if t113 = 3 then (if t114 = 0 then (if t117 = 2 then (if t120 = 3 then (if t123 = 1 then ((varint_Text.f k (⟨#[104, 105]⟩ : ByteArray)).bind fun t136 => (if t136.toList = ([2, 104, 105] : List UInt8) then (if t124.toList = ([104, 105] : List UInt8) then (if t125 = 3 then (if t126 = 0 then (if t129 = 3 then (some (bt130.2.2 == 2)) else (some false)) else (some false)) else (some false)) else (some false)) else (some false))) else (some false)) else (some false)) else (some false)) else (some false)) else (some false)) else (some false)) else (some false))) else (some false))) else (some false)))) = some r := H
  have A6 := Aside0.mk A60
  clear A60
  replace H := Option.bind_eq_some_iff.mp H
  obtain ⟨⟨t130, t131, t132⟩, A70, H⟩ := H
  replace H : ((varint_Put.f k 300).bind fun t133 => (if t133.toList = ([172, 2] : List UInt8) then ((varint_Put.f k 0).bind fun t134 => (if t134.toList = ([0] : List UInt8) then ((varint_Size.f k 300).bind fun t135 => (if t135 = 2 then (if t112 = 300 then (if t113 = 3 then (if t114 = 0 then (if t117 = 2 then (if t120 = 3 then (if t123 = 1 then ((varint_Text.f k (⟨#[104, 105]⟩ : ByteArray)).bind fun t136 => (if t136.toList = ([2, 104, 105] : List UInt8) then (if t124.toList = ([104, 105] : List UInt8) then (if t125 = 3 then (if t126 = 0 then (if t129 = 3 then (some (t132 == 2)) else (some false)) else (some false)) else (some false)) else (some false)) else (some false))) else (some false)) else (some false)) else (some false)) else (some false)) else (some false)) else (some false)) else (some false))) else (some false))) else (some false))) = some r := H
  have A7 := Aside0.mk A70
  clear A70
  replace H := Option.bind_eq_some_iff.mp H
  obtain ⟨t133, A80, H⟩ := H
  replace H : (if t133.toList = ([172, 2] : List UInt8) then ((varint_Put.f k 0).bind fun t134 => (if t134.toList = ([0] : List UInt8) then ((varint_Size.f k 300).bind fun t135 => (if t135 = 2 then (if t112 = 300 then (if t113 = 3 then (if t114 = 0 then (if t117 = 2 then (if t120 = 3 then (if t123 = 1 then ((varint_Text.f k (⟨#[104, 105]⟩ : ByteArray)).bind fun t136 => (if t136.toList = ([2, 104, 105] : List UInt8) then (if t124.toList = ([104, 105] : List UInt8) then (if t125 = 3 then (if t126 = 0 then (if t129 = 3 then (some (t132 == 2)) else (some false)) else (some false)) else (some false)) else (some false)) else (some false))) else (some false)) else (some false)) else (some false)) else (some false)) else (some false)) else (some false)) else (some false))) else (some false))) else (some false)) = some r := H
  have A8 := Aside0.mk A80
  clear A80
  by_cases c9 : t133.toList = ([172, 2] : List UInt8)
  · rw [if_pos c9] at H
    have c9b0 : (t133.toList == ([172, 2] : List UInt8)) = true := beq_iff_eq.mpr c9
    have c9b1 : (t133.toList != ([172, 2] : List UInt8)) = false := bne_eq_false_iff_eq.mpr c9
    clear c9
    replace H := Option.bind_eq_some_iff.mp H
    obtain ⟨t134, A100, H⟩ := H
    replace H : (if t134.toList = ([0] : List UInt8) then ((varint_Size.f k 300).bind fun t135 => (if t135 = 2 then (if t112 = 300 then (if t113 = 3 then (if t114 = 0 then (if t117 = 2 then (if t120 = 3 then (if t123 = 1 then ((varint_Text.f k (⟨#[104, 105]⟩ : ByteArray)).bind fun t136 => (if t136.toList = ([2, 104, 105] : List UInt8) then (if t124.toList = ([104, 105] : List UInt8) then (if t125 = 3 then (if t126 = 0 then (if t129 = 3 then (some (t132 == 2)) else (some false)) else (some false)) else (some false)) else (some false)) else (some false))) else (some false)) else (some false)) else (some false)) else (some false)) else (some false)) else (some false)) else (some false))) else (some false)) = some r := H
    have A10 := Aside0.mk A100
    clear A100
    by_cases c11 : t134.toList = ([0] : List UInt8)
    · rw [if_pos c11] at H
      have c11b0 : (t134.toList == ([0] : List UInt8)) = true := beq_iff_eq.mpr c11
      have c11b1 : (t134.toList != ([0] : List UInt8)) = false := bne_eq_false_iff_eq.mpr c11
      clear c11
      replace H := Option.bind_eq_some_iff.mp H
      obtain ⟨t135, A120, H⟩ := H
      replace H : (if t135 = 2 then (if t112 = 300 then (if t113 = 3 then (if t114 = 0 then (if t117 = 2 then (if t120 = 3 then (if t123 = 1 then ((varint_Text.f k (⟨#[104, 105]⟩ : ByteArray)).bind fun t136 => (if t136.toList = ([2, 104, 105] : List UInt8) then (if t124.toList = ([104, 105] : List UInt8) then (if t125 = 3 then (if t126 = 0 then (if t129 = 3 then (some (t132 == 2)) else (some false)) else (some false)) else (some false)) else (some false)) else (some false))) else (some false)) else (some false)) else (some false)) else (some false)) else (some false)) else (some false)) else (some false)) = some r := H
      have A12 := Aside0.mk A120
      clear A120
      by_cases c13 : t135 = 2
      · rw [if_pos c13] at H
        have c13b0 : (t135 == 2) = true := beq_iff_eq.mpr c13
        have c13b1 : (t135 != 2) = false := bne_eq_false_iff_eq.mpr c13
        clear c13
        by_cases c14 : t112 = 300
        · rw [if_pos c14] at H
          have c14b0 : (t112 == 300) = true := beq_iff_eq.mpr c14
          have c14b1 : (t112 != 300) = false := bne_eq_false_iff_eq.mpr c14
          clear c14
          by_cases c15 : t113 = 3
          · rw [if_pos c15] at H
            have c15b0 : (t113 == 3) = true := beq_iff_eq.mpr c15
            have c15b1 : (t113 != 3) = false := bne_eq_false_iff_eq.mpr c15
            clear c15
            by_cases c16 : t114 = 0
            · rw [if_pos c16] at H
              have c16b0 : (t114 == 0) = true := beq_iff_eq.mpr c16
              have c16b1 : (t114 != 0) = false := bne_eq_false_iff_eq.mpr c16
              clear c16
              by_cases c17 : t117 = 2
              · rw [if_pos c17] at H
                have c17b0 : (t117 == 2) = true := beq_iff_eq.mpr c17
                have c17b1 : (t117 != 2) = false := bne_eq_false_iff_eq.mpr c17
                clear c17
                by_cases c18 : t120 = 3
                · rw [if_pos c18] at H
                  have c18b0 : (t120 == 3) = true := beq_iff_eq.mpr c18
                  have c18b1 : (t120 != 3) = false := bne_eq_false_iff_eq.mpr c18
                  clear c18
                  by_cases c19 : t123 = 1
                  · rw [if_pos c19] at H
                    have c19b0 : (t123 == 1) = true := beq_iff_eq.mpr c19
                    have c19b1 : (t123 != 1) = false := bne_eq_false_iff_eq.mpr c19
                    clear c19
                    replace H := Option.bind_eq_some_iff.mp H
                    obtain ⟨t136, A200, H⟩ := H
                    replace H : (if t136.toList = ([2, 104, 105] : List UInt8) then (if t124.toList = ([104, 105] : List UInt8) then (if t125 = 3 then (if t126 = 0 then (if t129 = 3 then (some (t132 == 2)) else (some false)) else (some false)) else (some false)) else (some false)) else (some false)) = some r := H
                    have A20 := Aside0.mk A200
                    clear A200
                    by_cases c21 : t136.toList = ([2, 104, 105] : List UInt8)
                    · rw [if_pos c21] at H
                      have c21b0 : (t136.toList == ([2, 104, 105] : List UInt8)) = true := beq_iff_eq.mpr c21
                      have c21b1 : (t136.toList != ([2, 104, 105] : List UInt8)) = false := bne_eq_false_iff_eq.mpr c21
                      clear c21
                      by_cases c22 : t124.toList = ([104, 105] : List UInt8)
                      · rw [if_pos c22] at H
                        have c22b0 : (t124.toList == ([104, 105] : List UInt8)) = true := beq_iff_eq.mpr c22
                        have c22b1 : (t124.toList != ([104, 105] : List UInt8)) = false := bne_eq_false_iff_eq.mpr c22
                        clear c22
                        by_cases c23 : t125 = 3
                        · rw [if_pos c23] at H
                          have c23b0 : (t125 == 3) = true := beq_iff_eq.mpr c23
                          have c23b1 : (t125 != 3) = false := bne_eq_false_iff_eq.mpr c23
                          clear c23
                          by_cases c24 : t126 = 0
                          · rw [if_pos c24] at H
                            have c24b0 : (t126 == 0) = true := beq_iff_eq.mpr c24
                            have c24b1 : (t126 != 0) = false := bne_eq_false_iff_eq.mpr c24
                            clear c24
                            by_cases c25 : t129 = 3
                            · rw [if_pos c25] at H
                              have c25b0 : (t129 == 3) = true := beq_iff_eq.mpr c25
                              have c25b1 : (t129 != 3) = false := bne_eq_false_iff_eq.mpr c25
                              clear c25
                              obtain rfl := Option.some.inj H
                              go_enter Try.func9, Try.ntmps9
                              go_wp2_with (first | ((with_reducible refine gate_callee (f := 16) rfl ?_); refine goesL_ (some 23) rfl rfl Try.func16 (by kernel_rfl) rfl #[.string (⟨#[120, 172, 2, 121]⟩ : ByteArray), .int .i64 1] rfl (by (try simp only [List.map_toArray, List.map_cons, List.map_nil]); first | done | rfl | (simp only [List.length_drop, List.length_take]; rfl)) ?_; (with_reducible refine (varint_Get.calls (⟨#[120, 172, 2, 121]⟩ : ByteArray) 1 t112 t113 t114 _ A1.out).mono ?_); rintro e w' ⟨rfl, ⟨nd, rfl⟩⟩; refine ⟨_, rfl, ?_⟩) | ((with_reducible refine gate_callee (f := 16) rfl ?_); refine goesL_ (some 28) rfl rfl Try.func16 (by kernel_rfl) rfl #[.string (⟨#[172]⟩ : ByteArray), .int .i64 0] rfl (by (try simp only [List.map_toArray, List.map_cons, List.map_nil]); first | done | rfl | (simp only [List.length_drop, List.length_take]; rfl)) ?_; (with_reducible refine (varint_Get.calls (⟨#[172]⟩ : ByteArray) 0 t115 t116 t117 _ A2.out).mono ?_); rintro e w' ⟨rfl, ⟨nd, rfl⟩⟩; refine ⟨_, rfl, ?_⟩) | ((with_reducible refine gate_callee (f := 16) rfl ?_); refine goesL_ (some 33) rfl rfl Try.func16 (by kernel_rfl) rfl #[.string (⟨#[128, 0]⟩ : ByteArray), .int .i64 0] rfl (by (try simp only [List.map_toArray, List.map_cons, List.map_nil]); first | done | rfl | (simp only [List.length_drop, List.length_take]; rfl)) ?_; (with_reducible refine (varint_Get.calls (⟨#[128, 0]⟩ : ByteArray) 0 t118 t119 t120 _ A3.out).mono ?_); rintro e w' ⟨rfl, ⟨nd, rfl⟩⟩; refine ⟨_, rfl, ?_⟩) | ((with_reducible refine gate_callee (f := 16) rfl ?_); refine goesL_ (some 38) rfl rfl Try.func16 (by kernel_rfl) rfl #[.string (⟨#[120]⟩ : ByteArray), .int .i64 2] rfl (by (try simp only [List.map_toArray, List.map_cons, List.map_nil]); first | done | rfl | (simp only [List.length_drop, List.length_take]; rfl)) ?_; (with_reducible refine (varint_Get.calls (⟨#[120]⟩ : ByteArray) 2 t121 t122 t123 _ A4.out).mono ?_); rintro e w' ⟨rfl, ⟨nd, rfl⟩⟩; refine ⟨_, rfl, ?_⟩) | ((with_reducible refine gate_callee (f := 18) rfl ?_); refine goesL_ (some 43) rfl rfl Try.func18 (by kernel_rfl) rfl #[.string (⟨#[2, 104, 105, 120]⟩ : ByteArray), .int .i64 0, .int .i64 9] rfl (by (try simp only [List.map_toArray, List.map_cons, List.map_nil]); first | done | rfl | (simp only [List.length_drop, List.length_take]; rfl)) ?_; (with_reducible refine (varint_Take.calls k (⟨#[2, 104, 105, 120]⟩ : ByteArray) 0 9 t124 t125 t126 _ A5.out).mono ?_); rintro e w' ⟨rfl, ⟨nd, rfl⟩⟩; refine ⟨_, rfl, ?_⟩) | ((with_reducible refine gate_callee (f := 18) rfl ?_); refine goesL_ (some 48) rfl rfl Try.func18 (by kernel_rfl) rfl #[.string (⟨#[2, 104, 105, 120]⟩ : ByteArray), .int .i64 0, .int .i64 1] rfl (by (try simp only [List.map_toArray, List.map_cons, List.map_nil]); first | done | rfl | (simp only [List.length_drop, List.length_take]; rfl)) ?_; (with_reducible refine (varint_Take.calls k (⟨#[2, 104, 105, 120]⟩ : ByteArray) 0 1 t127 t128 t129 _ A6.out).mono ?_); rintro e w' ⟨rfl, ⟨nd, rfl⟩⟩; refine ⟨_, rfl, ?_⟩) | ((with_reducible refine gate_callee (f := 18) rfl ?_); refine goesL_ (some 53) rfl rfl Try.func18 (by kernel_rfl) rfl #[.string (⟨#[5, 104, 105, 120]⟩ : ByteArray), .int .i64 0, .int .i64 9] rfl (by (try simp only [List.map_toArray, List.map_cons, List.map_nil]); first | done | rfl | (simp only [List.length_drop, List.length_take]; rfl)) ?_; (with_reducible refine (varint_Take.calls k (⟨#[5, 104, 105, 120]⟩ : ByteArray) 0 9 t130 t131 t132 _ A7.out).mono ?_); rintro e w' ⟨rfl, ⟨nd, rfl⟩⟩; refine ⟨_, rfl, ?_⟩) | ((with_reducible refine gate_callee (f := 10) rfl ?_); refine goesL_ (some 57) rfl rfl Try.func10 (by kernel_rfl) rfl #[.int .u64 300] rfl (by (try simp only [List.map_toArray, List.map_cons, List.map_nil]); first | done | rfl | (simp only [List.length_drop, List.length_take]; rfl)) ?_; (with_reducible refine (varint_Put.calls k 300 t133 _ A8.out).mono ?_); rintro e w26 ⟨rfl, hb⟩; refine ⟨_, rfl, ?_⟩; have n0_ := Aside0.mk (below_step (by repeat (first | (with_reducible first | exact HB.out | apply below_alloc | apply pw_below_drewN | apply below_drew1) | exact HB.out)) hb); clear HB; have HB := n0_; clear n0_; (try clear hb); (try clear hb2); (try clear hk); (try clear hi)) | (go_at_call 10; (with_reducible refine (varint_Put.calls k 0 t134 _ A10.out).mono ?_); rintro e w27 ⟨rfl, hb⟩; have n0_ := Aside0.mk (below_step (by repeat (first | (with_reducible first | exact HB.out | apply below_alloc | apply pw_below_drewN | apply below_drew1) | exact HB.out)) hb); clear HB; have HB := n0_; clear n0_; (try clear hb); (try clear hb2); (try clear hk); (try clear hi)) | (go_at_call 12; (with_reducible refine (varint_Size.calls k 300 t135 _ A12.out).mono ?_); rintro e w28 ⟨rfl, hb⟩; have n0_ := Aside0.mk (below_step (by repeat (first | (with_reducible first | exact HB.out | apply below_alloc | apply pw_below_drewN | apply below_drew1) | exact HB.out)) hb); clear HB; have HB := n0_; clear n0_; (try clear hb); (try clear hb2); (try clear hk); (try clear hi)) | (go_at_call 14; (with_reducible refine (varint_Text.calls k (⟨#[104, 105]⟩ : ByteArray) t136 _ A20.out).mono ?_); rintro e w29 ⟨rfl, hb⟩; have n0_ := Aside0.mk (below_step (by repeat (first | (with_reducible first | exact HB.out | apply below_alloc | apply pw_below_drewN | apply below_drew1) | exact HB.out)) hb); clear HB; have HB := n0_; clear n0_; (try clear hb); (try clear hb2); (try clear hk); (try clear hi)))
                              go_ret
                              exact ⟨by first | rfl | (simp [errW_none, errW_some] <;> rfl) | (simp [*, errW_none, errW_some] <;> rfl), by repeat (first | (with_reducible first | exact HB.out | apply below_alloc | apply pw_below_drewN | apply below_drew1) | exact HB.out)⟩
                            · rw [if_neg c25] at H
                              have c25b0 : (t129 == 3) = false := beq_eq_false_iff_ne.mpr c25
                              have c25b1 : (t129 != 3) = true := bne_iff_ne.mpr c25
                              exact absurd ((Option.some.inj H).trans HT.out) (by simp)
                          · rw [if_neg c24] at H
                            have c24b0 : (t126 == 0) = false := beq_eq_false_iff_ne.mpr c24
                            have c24b1 : (t126 != 0) = true := bne_iff_ne.mpr c24
                            exact absurd ((Option.some.inj H).trans HT.out) (by simp)
                        · rw [if_neg c23] at H
                          have c23b0 : (t125 == 3) = false := beq_eq_false_iff_ne.mpr c23
                          have c23b1 : (t125 != 3) = true := bne_iff_ne.mpr c23
                          exact absurd ((Option.some.inj H).trans HT.out) (by simp)
                      · rw [if_neg c22] at H
                        have c22b0 : (t124.toList == ([104, 105] : List UInt8)) = false := beq_eq_false_iff_ne.mpr c22
                        have c22b1 : (t124.toList != ([104, 105] : List UInt8)) = true := bne_iff_ne.mpr c22
                        exact absurd ((Option.some.inj H).trans HT.out) (by simp)
                    · rw [if_neg c21] at H
                      have c21b0 : (t136.toList == ([2, 104, 105] : List UInt8)) = false := beq_eq_false_iff_ne.mpr c21
                      have c21b1 : (t136.toList != ([2, 104, 105] : List UInt8)) = true := bne_iff_ne.mpr c21
                      exact absurd ((Option.some.inj H).trans HT.out) (by simp)
                  · rw [if_neg c19] at H
                    have c19b0 : (t123 == 1) = false := beq_eq_false_iff_ne.mpr c19
                    have c19b1 : (t123 != 1) = true := bne_iff_ne.mpr c19
                    exact absurd ((Option.some.inj H).trans HT.out) (by simp)
                · rw [if_neg c18] at H
                  have c18b0 : (t120 == 3) = false := beq_eq_false_iff_ne.mpr c18
                  have c18b1 : (t120 != 3) = true := bne_iff_ne.mpr c18
                  exact absurd ((Option.some.inj H).trans HT.out) (by simp)
              · rw [if_neg c17] at H
                have c17b0 : (t117 == 2) = false := beq_eq_false_iff_ne.mpr c17
                have c17b1 : (t117 != 2) = true := bne_iff_ne.mpr c17
                exact absurd ((Option.some.inj H).trans HT.out) (by simp)
            · rw [if_neg c16] at H
              have c16b0 : (t114 == 0) = false := beq_eq_false_iff_ne.mpr c16
              have c16b1 : (t114 != 0) = true := bne_iff_ne.mpr c16
              exact absurd ((Option.some.inj H).trans HT.out) (by simp)
          · rw [if_neg c15] at H
            have c15b0 : (t113 == 3) = false := beq_eq_false_iff_ne.mpr c15
            have c15b1 : (t113 != 3) = true := bne_iff_ne.mpr c15
            exact absurd ((Option.some.inj H).trans HT.out) (by simp)
        · rw [if_neg c14] at H
          have c14b0 : (t112 == 300) = false := beq_eq_false_iff_ne.mpr c14
          have c14b1 : (t112 != 300) = true := bne_iff_ne.mpr c14
          exact absurd ((Option.some.inj H).trans HT.out) (by simp)
      · rw [if_neg c13] at H
        have c13b0 : (t135 == 2) = false := beq_eq_false_iff_ne.mpr c13
        have c13b1 : (t135 != 2) = true := bne_iff_ne.mpr c13
        exact absurd ((Option.some.inj H).trans HT.out) (by simp)
    · rw [if_neg c11] at H
      have c11b0 : (t134.toList == ([0] : List UInt8)) = false := beq_eq_false_iff_ne.mpr c11
      have c11b1 : (t134.toList != ([0] : List UInt8)) = true := bne_iff_ne.mpr c11
      exact absurd ((Option.some.inj H).trans HT.out) (by simp)
  · rw [if_neg c9] at H
    have c9b0 : (t133.toList == ([172, 2] : List UInt8)) = false := beq_eq_false_iff_ne.mpr c9
    have c9b1 : (t133.toList != ([172, 2] : List UInt8)) = true := bne_iff_ne.mpr c9
    exact absurd ((Option.some.inj H).trans HT.out) (by simp)
theorem rollcalllaw01_live.calls (k : Nat) (r : Bool) (w : World) (h : rollcalllaw01_live.f k = some r) :
    Calls Try.prog 9 #[] w fun e w' => e = .returned (.bool r) ∧ Below w.heap.size w w' := by
  have h1 : rollcalllaw01_live.f 100 = some true := by kernel_rfl
  have h2 := at_rounds rollcalllaw01_live.mono (Nat.le_max_left k 100) h
  have h3 := at_rounds rollcalllaw01_live.mono (Nat.le_max_right k 100) h1
  exact rollcalllaw01_live.callsT k r (Option.some.inj (h2.symm.trans h3)) w h

/-! ### rollcallref01_Put: function 11 -/
def rollcallref01_Put.l0 : Nat → Int → List Int → Option (ByteArray)
  | 0, _, _ => none
  | k + 1, x0, x3 => if x0 ≥ 128 then (if x3.length < 140737488355328 then (rollcallref01_Put.l0 k (IntKind.u64.wrap (Int.tdiv x0 128)) (x3 ++ [(IntKind.u64.wrap (128 + (Int.tmod x0 128))) % 256])) else (none)) else (if x3.length < 140737488355328 then (some (strOfNums (x3 ++ [(x0) % 256]))) else (none))
def rollcallref01_Put.f (k : Nat) (a0 : Int) : Option (ByteArray) := rollcallref01_Put.l0 k a0 (([] : List Int))
theorem rollcallref01_Put.mono_l : ∀ k, (∀ y0 y1, LeO (rollcallref01_Put.l0 k y0 y1) (rollcallref01_Put.l0 (k + 1) y0 y1))
  | 0 => fun _ _ r h => by simp [rollcallref01_Put.l0] at h
  | k + 1 => by
    have ih0 := rollcallref01_Put.mono_l k
    · intro y0 y1
      unfold rollcallref01_Put.l0
      repeat' first
      | (with_reducible exact ih0 _ _)
      | (with_reducible exact LeO.refl _)
      | (with_reducible exact LeO.none _)
      | (with_reducible refine LeO.ite ?_ ?_)
      | (with_reducible refine LeO.bind ?_ (fun _ => ?_))
      | exact ih0 _ _
      | exact LeO.none _
      | refine LeO.ite ?_ ?_
      | refine LeO.bind ?_ (fun _ => ?_)
theorem rollcallref01_Put.mono : ∀ a0 k, LeO (rollcallref01_Put.f k a0) (rollcallref01_Put.f (k + 1) a0) := by
  intro a0 k
  have ih0 := rollcallref01_Put.mono_l k
  unfold rollcallref01_Put.f
  repeat' first
      | (with_reducible exact ih0 _ _)
      | (with_reducible exact LeO.refl _)
      | (with_reducible exact LeO.none _)
      | (with_reducible refine LeO.ite ?_ ?_)
      | (with_reducible refine LeO.bind ?_ (fun _ => ?_))
      | exact ih0 _ _
      | exact LeO.none _
      | refine LeO.ite ?_ ?_
      | refine LeO.bind ?_ (fun _ => ?_)
set_option maxHeartbeats 8000000 in
set_option maxRecDepth 100000 in
theorem rollcallref01_Put.calls (k : Nat) (a0 : Int) (r : ByteArray) (w : World) (h : rollcallref01_Put.f k a0 = some r) :
    Calls Try.prog 11 #[.int .u64 a0] w fun e w' => e = .returned (.string r) ∧ Below w.heap.size w w' := by
  have HB := Aside0.mk (Below.refl w.heap.size w)
  have H : (rollcallref01_Put.l0 k a0 (([] : List Int))) = some r := h
  clear h
  obtain ⟨y137, hy137⟩ : ∃ y_ : List Int, y_ = (([] : List Int)) := ⟨_, rfl⟩
  replace H : (rollcallref01_Put.l0 k a0 y137) = some r := by first | (rw [hy137]; with_reducible exact H) | (have H2_ := (Option.bind_some _ _).symm.trans H; rw [hy137]; with_reducible exact H2_) | (have H2_ := (Option.bind_some _ _).symm.trans H; with_reducible exact H2_) | with_reducible exact H | (rw [hy137]; exact H) | exact H
  have Ny137 := Aside0.mk hy137
  clear hy137
  have H' := Aside0.mk H
  clear H
  go_enter Try.func11, Try.ntmps11
  go_wp2_with (first | ((with_reducible refine gate_dst (N := 4) rfl ?_); refine Kd.R_lit (Kd.int .u8) _ 5 ?hg (N := 4) ?hd (xs := ([] : List Int)) (inner := []) (ok := fun _ => True) (okp := fun _ => True) ?hr ?hp (fun _ hk => hk) trivial (Below.refl _ _) (Nat.le_refl _) (by simp) ?_; (case hd => rfl); (case hg => rfl); (case hr => first | (go_simp; done) | (go_simp; rfl)); (case hp => exact (Reps.none _ _)); intro v138 w2 ho3 hb hg_ hnew_; clear hg_ hnew_; (first | rw [← Ny137.out] at ho3 | (simp only [Int.reduceToNat] at ho3; rw [← Ny137.out] at ho3)); have n0_ := Aside0.mk (Kd.R_lower ho3 (below_size (by repeat (first | (with_reducible first | exact HB.out | apply below_alloc | apply pw_below_drewN | apply below_drew1) | exact HB.out)))); have n1_ := Aside0.mk (below_step (by repeat (first | (with_reducible first | exact HB.out | apply below_alloc | apply pw_below_drewN | apply below_drew1) | exact HB.out)) hb); clear HB; have HO139 := n0_; have HB := n1_; clear n0_ n1_; clear hb ho3))
  go_loopg [0, 3] k (fun kq v0 v3 w' => ∃ (x0_1 : Int) (x3_1 : List Int), v0 = .int .u64 x0_1 ∧ Aside0 (rollcallref01_Put.l0 kq x0_1 x3_1 = some r) ∧ Aside0 (kq ≤ k) ∧ Aside0 (Kd.R (Kd.int .u8) 5 w' w.heap.size (fun _ => True) v3 x3_1) ∧ Aside0 (Below w.heap.size w w'))
  case atStart => exact ⟨(a0), (y137), (by first | rfl | (simp; done) | (simp [*]; done)), H', ⟨Nat.le_refl _⟩, ⟨by (with_reducible repeat (first | apply Kd.R_alloc | apply Kd.R_drewN | apply Kd.R_drew)); exact HO139.out⟩, ⟨by repeat (first | (with_reducible first | exact HB.out | apply below_alloc | apply pw_below_drewN | apply below_drew1) | exact HB.out)⟩⟩
  case round =>
    clear H'
    try clear c1
    try clear p2
    obtain ⟨x0_1, x3_1, rfl, HA, HK1, HO_3, HB⟩ := hrel
    cases gk with
    | zero => exact absurd HA.out (by simp [rollcallref01_Put.l0])
    | succ k1 =>
      have H := HA.out
      clear HA
      simp only [rollcallref01_Put.l0] at H
      by_cases c4 : x0_1 ≥ 128
      · rw [if_pos c4] at H
        have c4b0 : decide (128 ≤ x0_1) = true := decide_eq_true c4
        clear c4
        by_cases c5 : x3_1.length < 140737488355328
        · rw [if_pos c5] at H
          have LMc5 := Aside0.mk c5
          clear c5
          obtain ⟨y140, hy140⟩ : ∃ y_ : List Int, y_ = (x3_1 ++ [(IntKind.u64.wrap (128 + (Int.tmod x0_1 128))) % 256]) := ⟨_, rfl⟩
          replace H : (rollcallref01_Put.l0 k1 (IntKind.u64.wrap (Int.tdiv x0_1 128)) y140) = some r := by first | (rw [hy140]; with_reducible exact H) | (have H2_ := (Option.bind_some _ _).symm.trans H; rw [hy140]; with_reducible exact H2_) | (have H2_ := (Option.bind_some _ _).symm.trans H; with_reducible exact H2_) | with_reducible exact H | (rw [hy140]; exact H) | exact H
          have Ny140 := Aside0.mk hy140
          clear hy140
          have H' := Aside0.mk H
          clear H
          go_wp2_with (first | ((with_reducible refine gate_builtin (b := .append) (xs := #[.tmp 7, .tmp 12]) rfl ?_); at_builtin; refine Kd.R_append (Kd.int .u8) (w0 := w) w.heap.size rfl (.tmp 7) (.tmp 12) 40 5 (.int .u8 0) 1 rfl Try.underlying40 info5 rfl (by decide) (by omega) u3 x3_1 ((IntKind.u64.wrap (128 + (Int.tmod x0_1 128))) % 256) [.int .u8 ((IntKind.u64.wrap (128 + (Int.tmod x0_1 128))) % 256)] (fun _ => True) (fun _ => False) rfl rfl ?aP (fun _ hk => hk.elim) ?aF ?aO ?aB ?aS ?aL ?_; (case aP => exact rfl); (case aB => exact (by repeat (first | (with_reducible first | exact HB.out | apply below_alloc | apply pw_below_drewN | apply below_drew1) | exact HB.out))); (case aF => exact (fun _ _ => trivial)); (case aO => exact (by (with_reducible repeat (first | apply Kd.R_alloc | apply Kd.R_drewN | apply Kd.R_drew)); exact HO_3.out)); (case aS => exact (below_size (by repeat (first | (with_reducible first | exact HB.out | apply below_alloc | apply pw_below_drewN | apply below_drew1) | exact HB.out)))); (case aL => have := LMc5.out; omega); intro v141 w6 ho hb hg hat; rw [← Ny140.out] at ho; have n0_ := Aside0.mk (hb); have n1_ := Aside0.mk (ho); clear HB; clear HO_3; have HB := n0_; have HO142 := n1_; clear n0_ n1_; clear ho hb hg hat))
          go_roundg k1
          case measure => have := HK1.out; omega
          case rel => exact ⟨(IntKind.u64.wrap (Int.tdiv x0_1 128)), (y140), (by first | rfl | (simp; done) | (simp [*]; done)), H', ⟨by have := HK1.out; omega⟩, ⟨by (with_reducible repeat (first | apply Kd.R_alloc | apply Kd.R_drewN | apply Kd.R_drew)); exact HO142.out⟩, ⟨by repeat (first | (with_reducible first | exact HB.out | apply below_alloc | apply pw_below_drewN | apply below_drew1) | exact HB.out)⟩⟩
        · rw [if_neg c5] at H
          exact absurd H (by simp)
      · rw [if_neg c4] at H
        have c4b0 : decide (128 ≤ x0_1) = false := decide_eq_false c4
        clear c4
        by_cases c7 : x3_1.length < 140737488355328
        · rw [if_pos c7] at H
          have LMc7 := Aside0.mk c7
          clear c7
          obtain ⟨y143, hy143⟩ : ∃ y_ : List Int, y_ = (x3_1 ++ [(x0_1) % 256]) := ⟨_, rfl⟩
          replace H : (some (strOfNums y143)) = some r := by first | (rw [hy143]; with_reducible exact H) | (have H2_ := (Option.bind_some _ _).symm.trans H; rw [hy143]; with_reducible exact H2_) | (have H2_ := (Option.bind_some _ _).symm.trans H; with_reducible exact H2_) | with_reducible exact H | (rw [hy143]; exact H) | exact H
          have Ny143 := Aside0.mk hy143
          clear hy143
          obtain rfl := Option.some.inj H
          go_wp2_with (first | ((with_reducible refine gate_builtin (b := .append) (xs := #[.tmp 16, .tmp 19]) rfl ?_); at_builtin; refine Kd.R_append (Kd.int .u8) (w0 := w) w.heap.size rfl (.tmp 16) (.tmp 19) 40 5 (.int .u8 0) 1 rfl Try.underlying40 info5 rfl (by decide) (by omega) u3 x3_1 ((x0_1) % 256) [.int .u8 ((x0_1) % 256)] (fun _ => True) (fun _ => False) rfl rfl ?aP (fun _ hk => hk.elim) ?aF ?aO ?aB ?aS ?aL ?_; (case aP => exact rfl); (case aB => exact (by repeat (first | (with_reducible first | exact HB.out | apply below_alloc | apply pw_below_drewN | apply below_drew1) | exact HB.out))); (case aF => exact (fun _ _ => trivial)); (case aO => exact (by (with_reducible repeat (first | apply Kd.R_alloc | apply Kd.R_drewN | apply Kd.R_drew)); exact HO_3.out)); (case aS => exact (below_size (by repeat (first | (with_reducible first | exact HB.out | apply below_alloc | apply pw_below_drewN | apply below_drew1) | exact HB.out)))); (case aL => have := LMc7.out; omega); intro v144 w8 ho hb hg hat; rw [← Ny143.out] at ho; have n0_ := Aside0.mk (hb); have n1_ := Aside0.mk (ho); clear HB; clear HO_3; have HB := n0_; have HO145 := n1_; clear n0_ n1_; clear ho hb hg hat; have hcv9 := own_string (P := Try.prog) Try.underlying40 Try.underlying5 Try.underlying9 (Kd.own_of_R HO145.out)))
          go_ret
          exact ⟨by first | rfl | (simp [errW_none, errW_some] <;> rfl) | (simp [*, errW_none, errW_some] <;> rfl), by repeat (first | (with_reducible first | exact HB.out | apply below_alloc | apply pw_below_drewN | apply below_drew1) | exact HB.out)⟩
        · rw [if_neg c7] at H
          exact absurd H (by simp)

/-! ### rollcallref01_Size: function 13 -/
def rollcallref01_Size.f (k : Nat) (a0 : Int) : Option (Int) := (rollcallref01_Put.f k a0).bind fun t146 => (some (t146.size : Int))
theorem rollcallref01_Size.mono : ∀ a0 k, LeO (rollcallref01_Size.f k a0) (rollcallref01_Size.f (k + 1) a0) := by
  intro a0 k
  unfold rollcallref01_Size.f
  repeat' first
      | (with_reducible exact rollcallref01_Put.mono _ _)
      | (with_reducible exact LeO.refl _)
      | (with_reducible exact LeO.none _)
      | (with_reducible refine LeO.ite ?_ ?_)
      | (with_reducible refine LeO.bind ?_ (fun _ => ?_))
      | exact rollcallref01_Put.mono _ _
      | exact LeO.none _
      | refine LeO.ite ?_ ?_
      | refine LeO.bind ?_ (fun _ => ?_)
set_option maxHeartbeats 8000000 in
set_option maxRecDepth 100000 in
theorem rollcallref01_Size.calls (k : Nat) (a0 : Int) (r : Int) (w : World) (h : rollcallref01_Size.f k a0 = some r) :
    Calls Try.prog 13 #[.int .u64 a0] w fun e w' => e = .returned (.int .i64 r) ∧ Below w.heap.size w w' := by
  have HB := Aside0.mk (Below.refl w.heap.size w)
  have H : ((rollcallref01_Put.f k a0).bind fun t146 => (some (t146.size : Int))) = some r := h
  clear h
  replace H := Option.bind_eq_some_iff.mp H
  obtain ⟨t146, A20, H⟩ := H
  replace H : (some (t146.size : Int)) = some r := H
  have A2 := Aside0.mk A20
  clear A20
  obtain rfl := Option.some.inj H
  go_enter Try.func13, Try.ntmps13
  go_wp2_with (first | ((with_reducible refine gate_callee (f := 11) rfl ?_); refine goesL_ (some 4) rfl rfl Try.func11 (by kernel_rfl) rfl #[.int .u64 a0] rfl (by (try simp only [List.map_toArray, List.map_cons, List.map_nil]); first | done | rfl | (simp only [List.length_drop, List.length_take]; rfl)) ?_; (with_reducible refine (rollcallref01_Put.calls k a0 t146 _ A2.out).mono ?_); rintro e w3 ⟨rfl, hb⟩; refine ⟨_, rfl, ?_⟩; have n0_ := Aside0.mk (below_step (by repeat (first | (with_reducible first | exact HB.out | apply below_alloc | apply pw_below_drewN | apply below_drew1) | exact HB.out)) hb); clear HB; have HB := n0_; clear n0_; (try clear hb); (try clear hb2); (try clear hk); (try clear hi)))
  go_ret
  exact ⟨by first | rfl | (simp [errW_none, errW_some] <;> rfl) | (simp [*, errW_none, errW_some] <;> rfl), by repeat (first | (with_reducible first | exact HB.out | apply below_alloc | apply pw_below_drewN | apply below_drew1) | exact HB.out)⟩

/-! ### rollcallref01_Text: function 15 -/
def rollcallref01_Text.f (k : Nat) (a0 : ByteArray) : Option (ByteArray) := (rollcallref01_Put.f k (IntKind.u64.wrap ((a0.size : Int)))).bind fun t147 => (if t147.size + a0.size ≤ 9223372036854775807 then (some (t147 ++ a0)) else (none))
theorem rollcallref01_Text.mono : ∀ a0 k, LeO (rollcallref01_Text.f k a0) (rollcallref01_Text.f (k + 1) a0) := by
  intro a0 k
  unfold rollcallref01_Text.f
  repeat' first
      | (with_reducible exact rollcallref01_Put.mono _ _)
      | (with_reducible exact LeO.refl _)
      | (with_reducible exact LeO.none _)
      | (with_reducible refine LeO.ite ?_ ?_)
      | (with_reducible refine LeO.bind ?_ (fun _ => ?_))
      | exact rollcallref01_Put.mono _ _
      | exact LeO.none _
      | refine LeO.ite ?_ ?_
      | refine LeO.bind ?_ (fun _ => ?_)
set_option maxHeartbeats 8000000 in
set_option maxRecDepth 100000 in
theorem rollcallref01_Text.calls (k : Nat) (a0 : ByteArray) (r : ByteArray) (w : World) (h : rollcallref01_Text.f k a0 = some r) :
    Calls Try.prog 15 #[.string a0] w fun e w' => e = .returned (.string r) ∧ Below w.heap.size w w' := by
  have HB := Aside0.mk (Below.refl w.heap.size w)
  have H : ((rollcallref01_Put.f k (IntKind.u64.wrap ((a0.size : Int)))).bind fun t147 => (if t147.size + a0.size ≤ 9223372036854775807 then (some (t147 ++ a0)) else (none))) = some r := h
  clear h
  replace H := Option.bind_eq_some_iff.mp H
  obtain ⟨t147, A20, H⟩ := H
  replace H : (if t147.size + a0.size ≤ 9223372036854775807 then (some (t147 ++ a0)) else (none)) = some r := H
  have A2 := Aside0.mk A20
  clear A20
  by_cases c3 : t147.size + a0.size ≤ 9223372036854775807
  · rw [if_pos c3] at H
    have c3b0 := eq_true c3
    have c3b1 : decide (t147.size + a0.size ≤ 9223372036854775807) = true := decide_eq_true c3
    try have c3b2 : (9223372036854775807 < t147.size + a0.size) = False := eq_false (Nat.not_lt.2 c3)
    (try (have c3b3 := c3b0; simp only [ByteArray.size_append] at c3b3))
    (try (have c3b4 := c3b2; simp only [ByteArray.size_append] at c3b4))
    clear c3
    obtain rfl := Option.some.inj H
    go_enter Try.func15, Try.ntmps15
    go_wp2_with (first | ((with_reducible refine gate_callee (f := 11) rfl ?_); refine goesL_ (some 6) rfl rfl Try.func11 (by kernel_rfl) rfl #[.int .u64 (IntKind.u64.wrap ((a0.size : Int)))] rfl (by (try simp only [List.map_toArray, List.map_cons, List.map_nil]); first | done | rfl | (simp only [List.length_drop, List.length_take]; rfl)) ?_; (with_reducible refine (rollcallref01_Put.calls k (IntKind.u64.wrap ((a0.size : Int))) t147 _ A2.out).mono ?_); rintro e w4 ⟨rfl, hb⟩; refine ⟨_, rfl, ?_⟩; have n0_ := Aside0.mk (below_step (by repeat (first | (with_reducible first | exact HB.out | apply below_alloc | apply pw_below_drewN | apply below_drew1) | exact HB.out)) hb); clear HB; have HB := n0_; clear n0_; (try clear hb); (try clear hb2); (try clear hk); (try clear hi)))
    go_ret
    exact ⟨by first | rfl | (simp [errW_none, errW_some] <;> rfl) | (simp [*, errW_none, errW_some] <;> rfl), by repeat (first | (with_reducible first | exact HB.out | apply below_alloc | apply pw_below_drewN | apply below_drew1) | exact HB.out)⟩
  · rw [if_neg c3] at H
    exact absurd H (by simp)

/-! ### rollcalllaw01_VarintPuts: function 3 -/
def rollcalllaw01_VarintPuts.f (k : Nat) (a0 : Int) (a1 : ByteArray) : Option (Bool) := if (a1.size : Int) > 1000 then ((rollcalllaw01_live.f k).bind fun t148 => (some t148)) else ((varint_Put.f k a0).bind fun t149 => ((rollcallref01_Put.f k a0).bind fun t150 => (if t149.toList = t150.toList then ((varint_Size.f k a0).bind fun t151 => ((rollcallref01_Size.f k a0).bind fun t152 => (if t151 = t152 then ((varint_Text.f k a1).bind fun t153 => ((rollcallref01_Text.f k a1).bind fun t154 => (if t153.toList = t154.toList then ((rollcalllaw01_live.f k).bind fun t155 => (some t155)) else (some false)))) else (some false)))) else (some false))))
theorem rollcalllaw01_VarintPuts.mono : ∀ a0 a1 k, LeO (rollcalllaw01_VarintPuts.f k a0 a1) (rollcalllaw01_VarintPuts.f (k + 1) a0 a1) := by
  intro a0 a1 k
  unfold rollcalllaw01_VarintPuts.f
  repeat' first
      | (with_reducible exact rollcalllaw01_live.mono _)
      | (with_reducible exact rollcallref01_Put.mono _ _)
      | (with_reducible exact rollcallref01_Size.mono _ _)
      | (with_reducible exact rollcallref01_Text.mono _ _)
      | (with_reducible exact varint_Put.mono _ _)
      | (with_reducible exact varint_Size.mono _ _)
      | (with_reducible exact varint_Text.mono _ _)
      | (with_reducible exact LeO.refl _)
      | (with_reducible exact LeO.none _)
      | (with_reducible refine LeO.ite ?_ ?_)
      | (with_reducible refine LeO.bind ?_ (fun _ => ?_))
      | exact rollcalllaw01_live.mono _
      | exact rollcallref01_Put.mono _ _
      | exact rollcallref01_Size.mono _ _
      | exact rollcallref01_Text.mono _ _
      | exact varint_Put.mono _ _
      | exact varint_Size.mono _ _
      | exact varint_Text.mono _ _
      | exact LeO.none _
      | refine LeO.ite ?_ ?_
      | refine LeO.bind ?_ (fun _ => ?_)
set_option maxHeartbeats 8000000 in
set_option maxRecDepth 100000 in
theorem rollcalllaw01_VarintPuts.calls (k : Nat) (a0 : Int) (a1 : ByteArray) (r : Bool) (hT_ : r = true) (w : World) (h : rollcalllaw01_VarintPuts.f k a0 a1 = some r) :
    Calls Try.prog 3 #[.int .u64 a0, .string a1] w fun e w' => e = .returned (.bool r) ∧ Below w.heap.size w w' := by
  have HT := Aside0.mk hT_
  clear hT_
  have HB := Aside0.mk (Below.refl w.heap.size w)
  have H : (if (a1.size : Int) > 1000 then ((rollcalllaw01_live.f k).bind fun t148 => (some t148)) else ((varint_Put.f k a0).bind fun t149 => ((rollcallref01_Put.f k a0).bind fun t150 => (if t149.toList = t150.toList then ((varint_Size.f k a0).bind fun t151 => ((rollcallref01_Size.f k a0).bind fun t152 => (if t151 = t152 then ((varint_Text.f k a1).bind fun t153 => ((rollcallref01_Text.f k a1).bind fun t154 => (if t153.toList = t154.toList then ((rollcalllaw01_live.f k).bind fun t155 => (some t155)) else (some false)))) else (some false)))) else (some false))))) = some r := h
  clear h
  by_cases c3 : (a1.size : Int) > 1000
  · rw [if_pos c3] at H
    have c3b0 : decide (1000 < (a1.size : Int)) = true := decide_eq_true c3
    have c3b1 : decide (1000 < a1.size) = true := decide_eq_true (by omega)
    clear c3
    replace H := Option.bind_eq_some_iff.mp H
    obtain ⟨t148, A40, H⟩ := H
    replace H : (some t148) = some r := H
    have A4 := Aside0.mk A40
    clear A40
    obtain rfl := Option.some.inj H
    go_enter Try.func3, Try.ntmps3
    go_wp2_with (first | ((with_reducible refine gate_callee (f := 9) rfl ?_); refine goesL_ (some 8) rfl rfl Try.func9 (by kernel_rfl) rfl #[] rfl (by (try simp only [List.map_toArray, List.map_cons, List.map_nil]); first | done | rfl | (simp only [List.length_drop, List.length_take]; rfl)) ?_; (with_reducible refine (rollcalllaw01_live.calls k  t148 _ A4.out).mono ?_); rintro e w5 ⟨rfl, hb⟩; refine ⟨_, rfl, ?_⟩; have n0_ := Aside0.mk (below_step (by repeat (first | (with_reducible first | exact HB.out | apply below_alloc | apply pw_below_drewN | apply below_drew1) | exact HB.out)) hb); clear HB; have HB := n0_; clear n0_; (try clear hb); (try clear hb2); (try clear hk); (try clear hi)))
    go_ret
    exact ⟨by first | rfl | (simp [errW_none, errW_some] <;> rfl) | (simp [*, errW_none, errW_some] <;> rfl), by repeat (first | (with_reducible first | exact HB.out | apply below_alloc | apply pw_below_drewN | apply below_drew1) | exact HB.out)⟩
  · rw [if_neg c3] at H
    have c3b0 : decide (1000 < (a1.size : Int)) = false := decide_eq_false c3
    have c3b1 : decide (1000 < a1.size) = false := decide_eq_false (by omega)
    clear c3
    replace H := Option.bind_eq_some_iff.mp H
    obtain ⟨t149, A60, H⟩ := H
    replace H : ((rollcallref01_Put.f k a0).bind fun t150 => (if t149.toList = t150.toList then ((varint_Size.f k a0).bind fun t151 => ((rollcallref01_Size.f k a0).bind fun t152 => (if t151 = t152 then ((varint_Text.f k a1).bind fun t153 => ((rollcallref01_Text.f k a1).bind fun t154 => (if t153.toList = t154.toList then ((rollcalllaw01_live.f k).bind fun t155 => (some t155)) else (some false)))) else (some false)))) else (some false))) = some r := H
    have A6 := Aside0.mk A60
    clear A60
    replace H := Option.bind_eq_some_iff.mp H
    obtain ⟨t150, A70, H⟩ := H
    replace H : (if t149.toList = t150.toList then ((varint_Size.f k a0).bind fun t151 => ((rollcallref01_Size.f k a0).bind fun t152 => (if t151 = t152 then ((varint_Text.f k a1).bind fun t153 => ((rollcallref01_Text.f k a1).bind fun t154 => (if t153.toList = t154.toList then ((rollcalllaw01_live.f k).bind fun t155 => (some t155)) else (some false)))) else (some false)))) else (some false)) = some r := H
    have A7 := Aside0.mk A70
    clear A70
    by_cases c8 : t149.toList = t150.toList
    · rw [if_pos c8] at H
      have c8b0 : (t149.toList == t150.toList) = true := beq_iff_eq.mpr c8
      have c8b1 : (t149.toList != t150.toList) = false := bne_eq_false_iff_eq.mpr c8
      clear c8
      replace H := Option.bind_eq_some_iff.mp H
      obtain ⟨t151, A90, H⟩ := H
      replace H : ((rollcallref01_Size.f k a0).bind fun t152 => (if t151 = t152 then ((varint_Text.f k a1).bind fun t153 => ((rollcallref01_Text.f k a1).bind fun t154 => (if t153.toList = t154.toList then ((rollcalllaw01_live.f k).bind fun t155 => (some t155)) else (some false)))) else (some false))) = some r := H
      have A9 := Aside0.mk A90
      clear A90
      replace H := Option.bind_eq_some_iff.mp H
      obtain ⟨t152, A100, H⟩ := H
      replace H : (if t151 = t152 then ((varint_Text.f k a1).bind fun t153 => ((rollcallref01_Text.f k a1).bind fun t154 => (if t153.toList = t154.toList then ((rollcalllaw01_live.f k).bind fun t155 => (some t155)) else (some false)))) else (some false)) = some r := H
      have A10 := Aside0.mk A100
      clear A100
      by_cases c11 : t151 = t152
      · rw [if_pos c11] at H
        have c11b0 : (t151 == t152) = true := beq_iff_eq.mpr c11
        have c11b1 : (t151 != t152) = false := bne_eq_false_iff_eq.mpr c11
        clear c11
        replace H := Option.bind_eq_some_iff.mp H
        obtain ⟨t153, A120, H⟩ := H
        replace H : ((rollcallref01_Text.f k a1).bind fun t154 => (if t153.toList = t154.toList then ((rollcalllaw01_live.f k).bind fun t155 => (some t155)) else (some false))) = some r := H
        have A12 := Aside0.mk A120
        clear A120
        replace H := Option.bind_eq_some_iff.mp H
        obtain ⟨t154, A130, H⟩ := H
        replace H : (if t153.toList = t154.toList then ((rollcalllaw01_live.f k).bind fun t155 => (some t155)) else (some false)) = some r := H
        have A13 := Aside0.mk A130
        clear A130
        by_cases c14 : t153.toList = t154.toList
        · rw [if_pos c14] at H
          have c14b0 : (t153.toList == t154.toList) = true := beq_iff_eq.mpr c14
          have c14b1 : (t153.toList != t154.toList) = false := bne_eq_false_iff_eq.mpr c14
          clear c14
          replace H := Option.bind_eq_some_iff.mp H
          obtain ⟨t155, A150, H⟩ := H
          replace H : (some t155) = some r := H
          have A15 := Aside0.mk A150
          clear A150
          obtain rfl := Option.some.inj H
          go_enter Try.func3, Try.ntmps3
          go_wp2_with (first | ((with_reducible refine gate_callee (f := 10) rfl ?_); refine goesL_ (some 10) rfl rfl Try.func10 (by kernel_rfl) rfl #[.int .u64 a0] rfl (by (try simp only [List.map_toArray, List.map_cons, List.map_nil]); first | done | rfl | (simp only [List.length_drop, List.length_take]; rfl)) ?_; (with_reducible refine (varint_Put.calls k a0 t149 _ A6.out).mono ?_); rintro e w16 ⟨rfl, hb⟩; refine ⟨_, rfl, ?_⟩; have n0_ := Aside0.mk (below_step (by repeat (first | (with_reducible first | exact HB.out | apply below_alloc | apply pw_below_drewN | apply below_drew1) | exact HB.out)) hb); clear HB; have HB := n0_; clear n0_; (try clear hb); (try clear hb2); (try clear hk); (try clear hi)) | ((with_reducible refine gate_callee (f := 11) rfl ?_); refine goesL_ (some 12) rfl rfl Try.func11 (by kernel_rfl) rfl #[.int .u64 a0] rfl (by (try simp only [List.map_toArray, List.map_cons, List.map_nil]); first | done | rfl | (simp only [List.length_drop, List.length_take]; rfl)) ?_; (with_reducible refine (rollcallref01_Put.calls k a0 t150 _ A7.out).mono ?_); rintro e w17 ⟨rfl, hb⟩; refine ⟨_, rfl, ?_⟩; have n0_ := Aside0.mk (below_step (by repeat (first | (with_reducible first | exact HB.out | apply below_alloc | apply pw_below_drewN | apply below_drew1) | exact HB.out)) hb); clear HB; have HB := n0_; clear n0_; (try clear hb); (try clear hb2); (try clear hk); (try clear hi)) | (go_at_call 12; (with_reducible refine (varint_Size.calls k a0 t151 _ A9.out).mono ?_); rintro e w18 ⟨rfl, hb⟩; have n0_ := Aside0.mk (below_step (by repeat (first | (with_reducible first | exact HB.out | apply below_alloc | apply pw_below_drewN | apply below_drew1) | exact HB.out)) hb); clear HB; have HB := n0_; clear n0_; (try clear hb); (try clear hb2); (try clear hk); (try clear hi)) | (go_at_call 13; (with_reducible refine (rollcallref01_Size.calls k a0 t152 _ A10.out).mono ?_); rintro e w19 ⟨rfl, hb⟩; have n0_ := Aside0.mk (below_step (by repeat (first | (with_reducible first | exact HB.out | apply below_alloc | apply pw_below_drewN | apply below_drew1) | exact HB.out)) hb); clear HB; have HB := n0_; clear n0_; (try clear hb); (try clear hb2); (try clear hk); (try clear hi)) | (go_at_call 14; (with_reducible refine (varint_Text.calls k a1 t153 _ A12.out).mono ?_); rintro e w20 ⟨rfl, hb⟩; have n0_ := Aside0.mk (below_step (by repeat (first | (with_reducible first | exact HB.out | apply below_alloc | apply pw_below_drewN | apply below_drew1) | exact HB.out)) hb); clear HB; have HB := n0_; clear n0_; (try clear hb); (try clear hb2); (try clear hk); (try clear hi)) | (go_at_call 15; (with_reducible refine (rollcallref01_Text.calls k a1 t154 _ A13.out).mono ?_); rintro e w21 ⟨rfl, hb⟩; have n0_ := Aside0.mk (below_step (by repeat (first | (with_reducible first | exact HB.out | apply below_alloc | apply pw_below_drewN | apply below_drew1) | exact HB.out)) hb); clear HB; have HB := n0_; clear n0_; (try clear hb); (try clear hb2); (try clear hk); (try clear hi)) | (go_at_call 9; (with_reducible refine (rollcalllaw01_live.calls k  t155 _ A15.out).mono ?_); rintro e w22 ⟨rfl, hb⟩; have n0_ := Aside0.mk (below_step (by repeat (first | (with_reducible first | exact HB.out | apply below_alloc | apply pw_below_drewN | apply below_drew1) | exact HB.out)) hb); clear HB; have HB := n0_; clear n0_; (try clear hb); (try clear hb2); (try clear hk); (try clear hi)))
          go_ret
          exact ⟨by first | rfl | (simp [errW_none, errW_some] <;> rfl) | (simp [*, errW_none, errW_some] <;> rfl), by repeat (first | (with_reducible first | exact HB.out | apply below_alloc | apply pw_below_drewN | apply below_drew1) | exact HB.out)⟩
        · rw [if_neg c14] at H
          have c14b0 : (t153.toList == t154.toList) = false := beq_eq_false_iff_ne.mpr c14
          have c14b1 : (t153.toList != t154.toList) = true := bne_iff_ne.mpr c14
          exact absurd ((Option.some.inj H).trans HT.out) (by simp)
      · rw [if_neg c11] at H
        have c11b0 : (t151 == t152) = false := beq_eq_false_iff_ne.mpr c11
        have c11b1 : (t151 != t152) = true := bne_iff_ne.mpr c11
        exact absurd ((Option.some.inj H).trans HT.out) (by simp)
    · rw [if_neg c8] at H
      have c8b0 : (t149.toList == t150.toList) = false := beq_eq_false_iff_ne.mpr c8
      have c8b1 : (t149.toList != t150.toList) = true := bne_iff_ne.mpr c8
      exact absurd ((Option.some.inj H).trans HT.out) (by simp)

/-- THE ONE PURE STATEMENT of rollcalllaw01_VarintPuts: yours. -/
def rollcalllaw01_VarintPuts.Pure : Prop := ∀ (a0 : Int) (a1 : ByteArray), (Lit.int .u64 a0).wf = true → a1.size ≤ 140737488351232 → ∃ k, rollcalllaw01_VarintPuts.f k a0 a1 = some true
theorem rollcalllaw01_VarintPuts.walk (P : rollcalllaw01_VarintPuts.Pure) (a0 : Int) (a1 : ByteArray) (w : World) (w0 : (Lit.int .u64 a0).wf = true) (w1 : a1.size ≤ 140737488351232) :
    Calls Try.prog 3 #[.int .u64 a0, .string a1] w fun e w' => e = .returned (.bool true) ∧ Below w.heap.size w w' := by
  obtain ⟨k, h⟩ := P a0 a1 w0 w1
  refine (rollcalllaw01_VarintPuts.calls k a0 a1 true rfl w h).mono ?_
  rintro e w' ⟨rfl, hd⟩
  exact ⟨rfl, hd⟩

end Go.Proofs.Ytijlneodilakfaa.PA
