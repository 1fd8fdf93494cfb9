-- Several texts in one, without what the law does not use (wip/tools/bundle.py).
import Derived.Test.YtjccgdnnnlgeeaaBBackoils0

section
-- Written by a program of this session (wip/tools/xprint.py), which drives the kit's print.
namespace Go.Proofs.Ytjccgdnnnlgeeaa.PA
open Go.RowKit Go.Proofs.YtjccgdnnnlgeeaaW.PrintWords Go.Proofs.YtjccgdnnnlgeeaaW.PrintLast Go.Proofs.YtjccgdnnnlgeeaaW.PrintMore
attribute [local go_sem] min2_int min_two   -- for this text's walks alone
set_option linter.unusedVariables false
set_option linter.unusedSimpArgs false

/-! ### value_Put: function 62 -/
def value_Put.f (k : Nat) (a0_0 : Int) (a0_1 : Int) (a0_2 : Int) (a0_3 : ByteArray) : Option (ByteArray × Bool) := (value_May.f a0_0 a0_1 a0_2 a0_3).bind fun t120 => (if t120 = true then ((some (([(a0_0) % 256, (wrap64 (a0_1 - (-128))) % 256] : List Int) : List Int)).bind fun y121 => ((varint_Put.f k (IntKind.u64.wrap (a0_2))).bind fun t124 => (if (strOfNums y121).size + t124.size ≤ 9223372036854775807 then ((varint_Text.f k a0_3).bind fun t125 => (if ((strOfNums y121) ++ t124).size + t125.size ≤ 9223372036854775807 then (some (((strOfNums y121) ++ t124) ++ t125, true)) else (none))) else (none)))) else (some ((⟨#[]⟩ : ByteArray), false)))
def value_Put.T3 : Bool × List (List Nat × List Nat) := (true, [([], []), ([0], [0]), ([1], [1]), ([], []), ([3], [3]), ([4], [4]), ([5], [5]), ([2, 6], [2, 6]), ([7], [7]), ([], []), ([9], [9]), ([10], [10]), ([11], [11]), ([8, 12], [8, 12]), ([], []), ([14], [14]), ([15, 12], [15]), ([13, 16], [13, 16]), ([17, 16, 0, 1, 2, 3, 4, 5, 6, 7, 8, 9, 10, 11, 12, 13, 14, 15, 16, 17], [17]), ([18, 0, 1, 2, 3, 4, 5, 6, 7, 8, 9, 10, 11, 12, 13, 14, 15, 16, 17, 18], [])])
def value_Put.B3 : List Nat := [0, 1, 3, 0, 8, 24, 56, 127, 255, 0, 512, 1536, 3584, 8191, 0, 16384, 56832, 131071, 262143, 524287]
theorem value_Put.tab3 : rtab .any (opsOf Try.f62 3) = value_Put.T3 := by kernel_rfl
theorem value_Put.bits3 : waitsOk value_Put.T3.2 value_Put.B3 = true := by kernel_rfl
set_option maxHeartbeats 8000000 in
set_option maxRecDepth 100000 in
theorem value_Put.calls (k : Nat) (a0_0 : Int) (a0_1 : Int) (a0_2 : Int) (a0_3 : ByteArray) (r1 : ByteArray) (r2 : Bool) (w : World) (h : value_Put.f k a0_0 a0_1 a0_2 a0_3 = some (r1, r2)) :
  Calls Try.prog 62 #[.agg #[.int .i64 a0_0, .int .i64 a0_1, .int .i64 a0_2, .string a0_3]] w fun e w' => e = .returned (.tuple #[.string r1, .bool r2]) ∧ Below w.heap.size w w' := by
 have hu23 := Try.underlying23
 have HB := Aside0.mk (Below.refl w.heap.size w)
 have H : ((value_May.f a0_0 a0_1 a0_2 a0_3).bind fun t120 => (if t120 = true then ((some (([(a0_0) % 256, (wrap64 (a0_1 - (-128))) % 256] : List Int) : List Int)).bind fun y121 => ((varint_Put.f k (IntKind.u64.wrap (a0_2))).bind fun t124 => (if (strOfNums y121).size + t124.size ≤ 9223372036854775807 then ((varint_Text.f k a0_3).bind fun t125 => (if ((strOfNums y121) ++ t124).size + t125.size ≤ 9223372036854775807 then (some (((strOfNums y121) ++ t124) ++ t125, true)) else (none))) else (none)))) else (some ((⟨#[]⟩ : ByteArray), false)))) = some (r1, r2) := h
 clear h
 replace H := Option.bind_eq_some_iff.mp H
 obtain ⟨t120, A20, H⟩ := H
 replace H : (if t120 = true then ((some (([(a0_0) % 256, (wrap64 (a0_1 - (-128))) % 256] : List Int) : List Int)).bind fun y121 => ((varint_Put.f k (IntKind.u64.wrap (a0_2))).bind fun t124 => (if (strOfNums y121).size + t124.size ≤ 9223372036854775807 then ((varint_Text.f k a0_3).bind fun t125 => (if ((strOfNums y121) ++ t124).size + t125.size ≤ 9223372036854775807 then (some (((strOfNums y121) ++ t124) ++ t125, true)) else (none))) else (none)))) else (some ((⟨#[]⟩ : ByteArray), false))) = some (r1, r2) := H
 have A2 := Aside0.mk A20
 clear A20
 by_cases c3 : t120 = true
 ·subst c3
  have H1 : ((some (([(a0_0) % 256, (wrap64 (a0_1 - (-128))) % 256] : List Int) : List Int)).bind fun y121 => ((varint_Put.f k (IntKind.u64.wrap (a0_2))).bind fun t124 => (if (strOfNums y121).size + t124.size ≤ 9223372036854775807 then ((varint_Text.f k a0_3).bind fun t125 => (if ((strOfNums y121) ++ t124).size + t125.size ≤ 9223372036854775807 then (some (((strOfNums y121) ++ t124) ++ t125, true)) else (none))) else (none)))) = some (r1, r2) := by rw [if_pos rfl] at H; exact H
  clear H
  have H := H1
  clear H1
  obtain ⟨y121, hy121⟩ : ∃ y_ : List Int, y_ = (([(a0_0) % 256, (wrap64 (a0_1 - (-128))) % 256] : List Int)) := ⟨_, rfl⟩
  replace H : ((varint_Put.f k (IntKind.u64.wrap (a0_2))).bind fun t124 => (if (strOfNums y121).size + t124.size ≤ 9223372036854775807 then ((varint_Text.f k a0_3).bind fun t125 => (if ((strOfNums y121) ++ t124).size + t125.size ≤ 9223372036854775807 then (some (((strOfNums y121) ++ t124) ++ t125, true)) else (none))) else (none))) = some (r1, r2) := by first | (rw [hy121]; with_reducible exact H) | (have H2_ := (Option.bind_some _ _).symm.trans H; rw [hy121]; with_reducible exact H2_) | (have H2_ := (Option.bind_some _ _).symm.trans H; with_reducible exact H2_) | with_reducible exact H | (rw [hy121]; exact H) | exact H
  have Ny121 := Aside0.mk hy121
  clear hy121
  replace H := Option.bind_eq_some_iff.mp H
  obtain ⟨t124, A40, H⟩ := H
  replace H : (if (strOfNums y121).size + t124.size ≤ 9223372036854775807 then ((varint_Text.f k a0_3).bind fun t125 => (if ((strOfNums y121) ++ t124).size + t125.size ≤ 9223372036854775807 then (some (((strOfNums y121) ++ t124) ++ t125, true)) else (none))) else (none)) = some (r1, r2) := H
  have A4 := Aside0.mk A40
  clear A40
  by_cases c5 : (strOfNums y121).size + t124.size ≤ 9223372036854775807
  ·rw [if_pos c5] at H
   have c5b0 := eq_true c5
   have c5b1 : decide ((strOfNums y121).size + t124.size ≤ 9223372036854775807) = true := decide_eq_true c5
   try have c5b2 : (9223372036854775807 < (strOfNums y121).size + t124.size) = False := eq_false (Nat.not_lt.2 c5)
   (try (have c5b3 := c5b0; simp only [ByteArray.size_append] at c5b3))
   (try (have c5b4 := c5b2; simp only [ByteArray.size_append] at c5b4))
   (try (have c5b5 := c5b3; simp only [show (⟨#[1]⟩ : ByteArray).size = 1 from rfl, show (⟨#[0]⟩ : ByteArray).size = 1 from rfl] at c5b5))
   (try (have c5b6 := c5b4; simp only [show (⟨#[1]⟩ : ByteArray).size = 1 from rfl, show (⟨#[0]⟩ : ByteArray).size = 1 from rfl] at c5b6))
   clear c5
   replace H := Option.bind_eq_some_iff.mp H
   obtain ⟨t125, A60, H⟩ := H
   replace H : (if ((strOfNums y121) ++ t124).size + t125.size ≤ 9223372036854775807 then (some (((strOfNums y121) ++ t124) ++ t125, true)) else (none)) = some (r1, r2) := H
   have A6 := Aside0.mk A60
   clear A60
   by_cases c7 : ((strOfNums y121) ++ t124).size + t125.size ≤ 9223372036854775807
   ·rw [if_pos c7] at H
    have c7b0 := eq_true c7
    have c7b1 : decide (((strOfNums y121) ++ t124).size + t125.size ≤ 9223372036854775807) = true := decide_eq_true c7
    try have c7b2 : (9223372036854775807 < ((strOfNums y121) ++ t124).size + t125.size) = False := eq_false (Nat.not_lt.2 c7)
    (try (have c7b3 := c7b0; simp only [ByteArray.size_append] at c7b3))
    (try (have c7b4 := c7b2; simp only [ByteArray.size_append] at c7b4))
    (try (have c7b5 := c7b3; simp only [show (⟨#[1]⟩ : ByteArray).size = 1 from rfl, show (⟨#[0]⟩ : ByteArray).size = 1 from rfl] at c7b5))
    (try (have c7b6 := c7b4; simp only [show (⟨#[1]⟩ : ByteArray).size = 1 from rfl, show (⟨#[0]⟩ : ByteArray).size = 1 from rfl] at c7b6))
    clear c7
    simp only [Option.some.injEq, Prod.mk.injEq] at H
    obtain ⟨rfl, rfl⟩ := H
    go_enter Try.func62, Try.ntmps62
    try go_wp2_with (first | ((with_reducible refine gate_dst (N := 1) rfl ?_); refine box_event ?hg (N := 1) ?hd (cs := #[.int .i64 a0_0, .int .i64 a0_1, .int .i64 a0_2, .string a0_3]) (t := 23) ?hr ?_; (case hd => rfl); (case hg => rfl); (case hr => first | (go_simp; done) | (go_simp; rfl)); intro gb119 hg w8 hbox hb; have BK119 := Aside0.mk (hbox); have GW119 := Aside0.mk ((by rw [hg]; exact (below_size (hS HB.out)) : w.heap.size ≤ gb119)); have GE119 := Aside0.mk ((by rw [hg]; exact (below_size (hS HB.out)) : w.heap.size ≤ gb119)); replace HB := Aside0.mk (below_step (hS HB.out) hb); clear hb hbox hg; have hcz9_0 : w8.cell? ⟨gb119, 0, none⟩ = some (.int .i64 a0_0) := (blk_cell BK119.out 0).trans rfl; have hcz9_1 : w8.cell? ⟨gb119, 1, none⟩ = some (.int .i64 a0_1) := (blk_cell BK119.out 1).trans rfl; have hcz9_2 : w8.cell? ⟨gb119, 2, none⟩ = some (.int .i64 a0_2) := (blk_cell BK119.out 2).trans rfl; have hcz9_3 : w8.cell? ⟨gb119, 3, none⟩ = some (.string a0_3) := (blk_cell BK119.out 3).trans rfl; have hfz9_0 := blk_frozen BK119.out 0; have hfz9_1 := blk_frozen BK119.out 1; have hfz9_2 := blk_frozen BK119.out 2; have hfz9_3 := blk_frozen BK119.out 3) | ((with_reducible refine gate_callee (f := 70) rfl ?_); refine goesL_ (some 5) rfl rfl Try.func70 (by kernel_rfl) rfl #[.agg #[.int .i64 a0_0, .int .i64 a0_1, .int .i64 a0_2, .string a0_3]] rfl (by (try simp only [List.map_toArray, List.map_cons, List.map_nil]); first | done | rfl | (simp only [List.length_drop, List.length_take]; rfl)) ?_; (with_reducible refine (value_May.calls a0_0 a0_1 a0_2 a0_3 true _ A2.out).mono ?_); rintro e w10 ⟨rfl, hb⟩; refine ⟨_, rfl, ?_⟩; replace BK119 := Aside0.mk (blk_below (bS BK119.out) hb); replace HB := Aside0.mk (below_step (hS HB.out) hb); (try clear hb); (try clear hb2); (try clear hk); (try clear hi)))
    replace BK119 := Aside0.mk (blk_drew BK119.out)
    replace HB := Aside0.mk (below_drew1 HB.out)
    refine start_ (n := 20) (S := fun w' => w'.cell? ⟨gb119, 0, none⟩ = some (.int .i64 a0_0) ∧ w'.cell? ⟨gb119, 1, none⟩ = some (.int .i64 a0_1) ∧ w'.cell? ⟨gb119, 2, none⟩ = some (.int .i64 a0_2) ∧ w'.cell? ⟨gb119, 3, none⟩ = some (.string a0_3)) (ds := []) #[false, false, false, false, false, false, false, false, false, false, false, false, false, false, false, false, false, false, false, false] (by kernel_rfl) rfl rfl ⟨(blk_cell BK119.out 0).trans rfl, (blk_cell BK119.out 1).trans rfl, (blk_cell BK119.out 2).trans rfl, (blk_cell BK119.out 3).trans rfl⟩ (fun hHeld => ?_); refine with_tabW value_Put.tab3 value_Put.bits3 (fun HT_ HW_ => ?_)
    generalize w10.drew = w11 at BK119 HB hHeld ⊢
    refine pure_ (i := 0) (N := some 7) (v := ?_) (a' := ?_) #[true, false, false, false, false, false, false, false, false, false, false, false, false, false, false, false, false, false, false, false] rfl rfl (any_of HT_.out (by kernel_rfl)) (fun _ _ _ h => h) (Or.inl ⟨by rfl, ?_⟩) ?_ ?_
    rotate_left
    ·intro w'
     go_simp
     with_reducible rfl
    rotate_left
    ·simp only [Act.put, List.setIfInBounds_toArray, List.set_cons_zero, List.set_cons_succ, i64_w, i32_w]
     rfl
    refine pure_ (i := 3) (N := some 10) (v := ?_) (a' := ?_) #[true, false, false, true, false, false, false, false, false, false, false, false, false, false, false, false, false, false, false, false] rfl rfl (any_of HT_.out (by kernel_rfl)) (fun _ _ _ h => h) (Or.inl ⟨by rfl, ?_⟩) ?_ ?_
    rotate_left
    ·intro w'
     go_simp
     with_reducible rfl
    rotate_left
    ·simp only [Act.put, List.setIfInBounds_toArray, List.set_cons_zero, List.set_cons_succ, i64_w, i32_w]
     rfl
    refine pure_ (i := 9) (N := some 16) (v := ?_) (a' := ?_) #[true, false, false, true, false, false, false, false, false, true, false, false, false, false, false, false, false, false, false, false] rfl rfl (any_of HT_.out (by kernel_rfl)) (fun _ _ _ h => h) (Or.inl ⟨by rfl, ?_⟩) ?_ ?_
    rotate_left
    ·intro w'
     go_simp
     with_reducible rfl
    rotate_left
    ·simp only [Act.put, List.setIfInBounds_toArray, List.set_cons_zero, List.set_cons_succ, i64_w, i32_w]
     rfl
    refine pure_ (i := 14) (N := some 21) (v := ?_) (a' := ?_) #[true, false, false, true, false, false, false, false, false, true, false, false, false, false, true, false, false, false, false, false] rfl rfl (any_of HT_.out (by kernel_rfl)) (fun _ _ _ h => h) (Or.inl ⟨by rfl, ?_⟩) ?_ ?_
    rotate_left
    ·intro w'
     go_simp
     with_reducible rfl
    rotate_left
    ·simp only [Act.put, List.setIfInBounds_toArray, List.set_cons_zero, List.set_cons_succ, i64_w, i32_w]
     rfl
    refine take_ (i := 1) (N := some 8) (v := ?_) (a' := ?_) #[true, true, false, true, false, false, false, false, false, true, false, false, false, false, true, false, false, false, false, false] rfl rfl (take_ofW HT_.out HW_.out (by kernel_rfl)) (fun _ _ _ h => h) (Or.inl ⟨by rfl, ?_⟩) hHeld ?_ ?_
    rotate_left
    ·rintro w' ⟨s0, s1, s2, s3⟩
     go_simp
     with_reducible rfl
    rotate_left
    ·simp only [Act.put, List.setIfInBounds_toArray, List.set_cons_zero, List.set_cons_succ, i64_w, i32_w]
     rfl
    refine pure_ (i := 2) (N := some 9) (v := ?_) (a' := ?_) #[true, true, true, true, false, false, false, false, false, true, false, false, false, false, true, false, false, false, false, false] rfl rfl (any_of HT_.out (by kernel_rfl)) (fun _ _ _ h => h) (Or.inl ⟨by rfl, ?_⟩) ?_ ?_
    rotate_left
    ·intro w'
     go_simp
     with_reducible rfl
    rotate_left
    ·simp only [Act.put, List.setIfInBounds_toArray, List.set_cons_zero, List.set_cons_succ, i64_w, i32_w]
     rfl
    refine take_ (i := 4) (N := some 11) (v := ?_) (a' := ?_) #[true, true, true, true, true, false, false, false, false, true, false, false, false, false, true, false, false, false, false, false] rfl rfl (take_ofW HT_.out HW_.out (by kernel_rfl)) (fun _ _ _ h => h) (Or.inl ⟨by rfl, ?_⟩) hHeld ?_ ?_
    rotate_left
    ·rintro w' ⟨s0, s1, s2, s3⟩
     go_simp
     with_reducible rfl
    rotate_left
    ·simp only [Act.put, List.setIfInBounds_toArray, List.set_cons_zero, List.set_cons_succ, i64_w, i32_w]
     rfl
    refine pure_ (i := 5) (N := some 12) (v := ?_) (a' := ?_) #[true, true, true, true, true, true, false, false, false, true, false, false, false, false, true, false, false, false, false, false] rfl rfl (any_of HT_.out (by kernel_rfl)) (fun _ _ _ h => h) (Or.inl ⟨by rfl, ?_⟩) ?_ ?_
    rotate_left
    ·intro w'
     go_simp
     with_reducible rfl
    rotate_left
    ·simp only [Act.put, List.setIfInBounds_toArray, List.set_cons_zero, List.set_cons_succ, i64_w, i32_w]
     rfl
    refine pure_ (i := 6) (N := some 13) (v := ?_) (a' := ?_) #[true, true, true, true, true, true, true, false, false, true, false, false, false, false, true, false, false, false, false, false] rfl rfl (any_of HT_.out (by kernel_rfl)) (fun _ _ _ h => h) (Or.inl ⟨by rfl, ?_⟩) ?_ ?_
    rotate_left
    ·intro w'
     go_simp
     with_reducible rfl
    rotate_left
    ·simp only [Act.put, List.setIfInBounds_toArray, List.set_cons_zero, List.set_cons_succ, i64_w, i32_w]
     rfl
    refine take_ (i := 10) (N := some 17) (v := ?_) (a' := ?_) #[true, true, true, true, true, true, true, false, false, true, true, false, false, false, true, false, false, false, false, false] rfl rfl (take_ofW HT_.out HW_.out (by kernel_rfl)) (fun _ _ _ h => h) (Or.inl ⟨by rfl, ?_⟩) hHeld ?_ ?_
    rotate_left
    ·rintro w' ⟨s0, s1, s2, s3⟩
     go_simp
     with_reducible rfl
    rotate_left
    ·simp only [Act.put, List.setIfInBounds_toArray, List.set_cons_zero, List.set_cons_succ, i64_w, i32_w]
     rfl
    refine pure_ (i := 11) (N := some 18) (v := ?_) (a' := ?_) #[true, true, true, true, true, true, true, false, false, true, true, true, false, false, true, false, false, false, false, false] rfl rfl (any_of HT_.out (by kernel_rfl)) (fun _ _ _ h => h) (Or.inl ⟨by rfl, ?_⟩) ?_ ?_
    rotate_left
    ·intro w'
     go_simp
     with_reducible rfl
    rotate_left
    ·simp only [Act.put, List.setIfInBounds_toArray, List.set_cons_zero, List.set_cons_succ, i64_w, i32_w]
     rfl
    refine take_ (i := 15) (N := some 22) (v := ?_) (a' := ?_) #[true, true, true, true, true, true, true, false, false, true, true, true, false, false, true, true, false, false, false, false] rfl rfl (take_ofW HT_.out HW_.out (by kernel_rfl)) (fun _ _ _ h => h) (Or.inl ⟨by rfl, ?_⟩) hHeld ?_ ?_
    rotate_left
    ·rintro w' ⟨s0, s1, s2, s3⟩
     go_simp
     with_reducible rfl
    rotate_left
    ·simp only [Act.put, List.setIfInBounds_toArray, List.set_cons_zero, List.set_cons_succ, i64_w, i32_w]
     rfl
    refine join_ (σ := Value) 3 #[true, true, true, true, true, true, true, true, true, true, true, true, true, true, true, true, true, false, false, false] (fun s_ => [(14, s_), (15, .string (strOfNums y121)), (19, .string t124), (23, .string t125), (20, .string ((strOfNums y121) ++ t124))]) (fun s_ w' => (w'.cell? ⟨gb119, 0, none⟩ = some (.int .i64 a0_0) ∧ w'.cell? ⟨gb119, 1, none⟩ = some (.int .i64 a0_1) ∧ w'.cell? ⟨gb119, 2, none⟩ = some (.int .i64 a0_2) ∧ w'.cell? ⟨gb119, 3, none⟩ = some (.string a0_3)) ∧ (Kd.R (Kd.int .u8) 5 w' w.heap.size (fun _ => True) s_ y121) ∧ (w'.heap[gb119]? = some (.cells #[.int .i64 a0_0, .int .i64 a0_1, .int .i64 a0_2, .string a0_3] 23 (0, 0))) ∧ (Below w.heap.size w w')) ?_ ?_
    rotate_left
    ·intro hJ7_8_12_16
     refine join_ (σ := Value) 4 #[true, true, true, true, true, true, true, true, true, true, true, true, true, true, true, true, false, false, false, false] (fun s_ => [(14, s_), (15, .string (strOfNums y121)), (19, .string t124), (20, .string ((strOfNums y121) ++ t124))]) (fun s_ w' => (w'.cell? ⟨gb119, 0, none⟩ = some (.int .i64 a0_0) ∧ w'.cell? ⟨gb119, 1, none⟩ = some (.int .i64 a0_1) ∧ w'.cell? ⟨gb119, 2, none⟩ = some (.int .i64 a0_2) ∧ w'.cell? ⟨gb119, 3, none⟩ = some (.string a0_3)) ∧ (Kd.R (Kd.int .u8) 5 w' w.heap.size (fun _ => True) s_ y121) ∧ (w'.heap[gb119]? = some (.cells #[.int .i64 a0_0, .int .i64 a0_1, .int .i64 a0_2, .string a0_3] 23 (0, 0))) ∧ (Below w.heap.size w w')) ?_ ?_
     rotate_left
     ·intro hJ7_8_12
      refine join_ (σ := Value) 5 #[true, true, true, true, true, true, true, true, false, true, true, true, true, false, true, true, true, false, false, false] (fun s_ => [(14, s_), (19, .string t124), (23, .string t125)]) (fun s_ w' => (w'.cell? ⟨gb119, 0, none⟩ = some (.int .i64 a0_0) ∧ w'.cell? ⟨gb119, 1, none⟩ = some (.int .i64 a0_1) ∧ w'.cell? ⟨gb119, 2, none⟩ = some (.int .i64 a0_2) ∧ w'.cell? ⟨gb119, 3, none⟩ = some (.string a0_3)) ∧ (Kd.R (Kd.int .u8) 5 w' w.heap.size (fun _ => True) s_ y121) ∧ (w'.heap[gb119]? = some (.cells #[.int .i64 a0_0, .int .i64 a0_1, .int .i64 a0_2, .string a0_3] 23 (0, 0))) ∧ (Below w.heap.size w w')) ?_ ?_
      rotate_left
      ·intro hJ7_12_16
       refine join_ (σ := Value) 6 #[true, true, true, true, true, true, true, true, true, true, true, true, false, false, true, true, false, false, false, false] (fun s_ => [(14, s_), (15, .string (strOfNums y121))]) (fun s_ w' => (w'.cell? ⟨gb119, 0, none⟩ = some (.int .i64 a0_0) ∧ w'.cell? ⟨gb119, 1, none⟩ = some (.int .i64 a0_1) ∧ w'.cell? ⟨gb119, 2, none⟩ = some (.int .i64 a0_2) ∧ w'.cell? ⟨gb119, 3, none⟩ = some (.string a0_3)) ∧ (Kd.R (Kd.int .u8) 5 w' w.heap.size (fun _ => True) s_ y121) ∧ (w'.heap[gb119]? = some (.cells #[.int .i64 a0_0, .int .i64 a0_1, .int .i64 a0_2, .string a0_3] 23 (0, 0))) ∧ (Below w.heap.size w w')) ?_ ?_
       rotate_left
       ·intro hJ7_8
        refine join_ (σ := Value) 6 #[true, true, true, true, true, true, true, true, false, true, true, true, true, false, true, true, false, false, false, false] (fun s_ => [(14, s_), (19, .string t124)]) (fun s_ w' => (w'.cell? ⟨gb119, 0, none⟩ = some (.int .i64 a0_0) ∧ w'.cell? ⟨gb119, 1, none⟩ = some (.int .i64 a0_1) ∧ w'.cell? ⟨gb119, 2, none⟩ = some (.int .i64 a0_2) ∧ w'.cell? ⟨gb119, 3, none⟩ = some (.string a0_3)) ∧ (Kd.R (Kd.int .u8) 5 w' w.heap.size (fun _ => True) s_ y121) ∧ (w'.heap[gb119]? = some (.cells #[.int .i64 a0_0, .int .i64 a0_1, .int .i64 a0_2, .string a0_3] 23 (0, 0))) ∧ (Below w.heap.size w w')) ?_ ?_
        rotate_left
        ·intro hJ7_12
         refine join_ (σ := Unit) 6 #[true, true, true, true, true, true, true, false, false, true, true, true, true, false, true, true, true, false, false, false] (fun s_ => [(19, .string t124), (23, .string t125)]) (fun s_ w' => (w'.cell? ⟨gb119, 0, none⟩ = some (.int .i64 a0_0) ∧ w'.cell? ⟨gb119, 1, none⟩ = some (.int .i64 a0_1) ∧ w'.cell? ⟨gb119, 2, none⟩ = some (.int .i64 a0_2) ∧ w'.cell? ⟨gb119, 3, none⟩ = some (.string a0_3)) ∧ (w'.heap[gb119]? = some (.cells #[.int .i64 a0_0, .int .i64 a0_1, .int .i64 a0_2, .string a0_3] 23 (0, 0))) ∧ (Below w.heap.size w w')) ?_ ?_
         rotate_left
         ·intro hJ12_16
          refine join_ (σ := Value) 7 #[true, true, true, true, true, true, true, true, false, true, true, true, false, false, true, true, false, false, false, false] (fun s_ => [(14, s_)]) (fun s_ w' => (w'.cell? ⟨gb119, 0, none⟩ = some (.int .i64 a0_0) ∧ w'.cell? ⟨gb119, 1, none⟩ = some (.int .i64 a0_1) ∧ w'.cell? ⟨gb119, 2, none⟩ = some (.int .i64 a0_2) ∧ w'.cell? ⟨gb119, 3, none⟩ = some (.string a0_3)) ∧ (Kd.R (Kd.int .u8) 5 w' w.heap.size (fun _ => True) s_ y121) ∧ (w'.heap[gb119]? = some (.cells #[.int .i64 a0_0, .int .i64 a0_1, .int .i64 a0_2, .string a0_3] 23 (0, 0))) ∧ (Below w.heap.size w w')) ?_ ?_
          rotate_left
          ·intro hJ7
           refine join_ (σ := Unit) 7 #[true, true, true, true, true, true, true, false, false, true, true, true, true, false, true, true, false, false, false, false] (fun s_ => [(19, .string t124)]) (fun s_ w' => (w'.cell? ⟨gb119, 0, none⟩ = some (.int .i64 a0_0) ∧ w'.cell? ⟨gb119, 1, none⟩ = some (.int .i64 a0_1) ∧ w'.cell? ⟨gb119, 2, none⟩ = some (.int .i64 a0_2) ∧ w'.cell? ⟨gb119, 3, none⟩ = some (.string a0_3)) ∧ (w'.heap[gb119]? = some (.cells #[.int .i64 a0_0, .int .i64 a0_1, .int .i64 a0_2, .string a0_3] 23 (0, 0))) ∧ (Below w.heap.size w w')) ?_ ?_
           rotate_left
           ·intro hJ12
            refine two_ (i := 7) (j := 12) (Ni := some 14) (Nj := some 19) #[true, true, true, true, true, true, true, true, false, true, true, true, false, false, true, true, false, false, false, false] #[true, true, true, true, true, true, true, false, false, true, true, true, true, false, true, true, false, false, false, false] rfl rfl rfl rfl (two_of HT_.out (by kernel_rfl)) (by decide) (by decide) (fun K hK => ?_) (fun K hK => ?_)
            ·skip
             refine Kd.R_lit_step (Kd.int .u8) _ 5 ?hg (N := 14) ?hd (xs := ([(a0_0) % 256, (wrap64 (a0_1 - (-128))) % 256] : List Int)) (inner := [.int .u8 ((a0_0) % 256), .int .u8 ((wrap64 (a0_1 - (-128))) % 256)]) (ok := fun _ => True) (okp := fun _ => True) ?hr ?hp (fun _ hk => hk) trivial (Below.refl _ _) (Nat.le_refl _) (by simp) ?_; (case hd => rfl); (case hg => rfl); (case hr => first | (go_simp; done) | (go_simp; rfl)); (case hp => exact (Reps.one (show Kd.M (Kd.int .u8) _ _ _ ((a0_0) % 256) [.int .u8 ((a0_0) % 256)] from rfl) (Reps.one (show Kd.M (Kd.int .u8) _ _ _ ((wrap64 (a0_1 - (-128))) % 256) [.int .u8 ((wrap64 (a0_1 - (-128))) % 256)] from rfl) (Reps.none _ _))))
             intro v122 w12 ho13 hb hg_ hnew_
             clear hg_ hnew_
             (first | rw [← Ny121.out] at ho13 | (simp only [Int.reduceToNat] at ho13; rw [← Ny121.out] at ho13))
             have HO123 := Aside0.mk (Kd.R_lower ho13 (below_size (by repeat (first | (with_reducible first | exact HB.out | apply below_alloc | apply pw_below_drewN | apply below_drew1 | refine below_set ?_ GE119.out) | exact HB.out))))
             replace BK119 := Aside0.mk (blk_below (bS BK119.out) hb)
             replace HB := Aside0.mk (below_step (by repeat (first | (with_reducible first | exact HB.out | apply below_alloc | apply pw_below_drewN | apply below_drew1 | refine below_set ?_ GE119.out) | exact HB.out)) hb)
             clear hb ho13
             refine hK.out _ _ ⟨(blk_cell BK119.out 0).trans rfl, (blk_cell BK119.out 1).trans rfl, (blk_cell BK119.out 2).trans rfl, (blk_cell BK119.out 3).trans rfl⟩ (fun hHeld => ?_)
             clear hK K
             refine norm_ (a' := ?_) ?_ ?_
             rotate_left
             ·show Act.put _ (some 14) _ = _
              simp only [Act.put, List.setIfInBounds_toArray, List.set_cons_zero, List.set_cons_succ, i64_w, i32_w]
              rfl
             exact norm_ (by first | (simp only [putAll, Act.put, List.setIfInBounds_toArray, List.set_cons_zero, List.set_cons_succ]; done) | (simp only [putAll, Act.put, List.setIfInBounds_toArray, List.set_cons_zero, List.set_cons_succ]; rfl)) (hJ7 (v122) _ ⟨hHeld, (rS HO123.out), (bS BK119.out), (by repeat (first | (with_reducible first | exact HB.out | apply below_alloc | apply pw_below_drewN | apply below_drew1 | refine below_set ?_ GE119.out) | exact HB.out))⟩)
            ·skip
             refine goes_ Try.func39 (by kernel_rfl) rfl #[.int .u64 (IntKind.u64.wrap (a0_2))] (by rfl) rfl rfl (by (try simp only [List.map_toArray, List.map_cons, List.map_nil]); first | done | rfl | (simp only [List.length_drop, List.length_take]; rfl)) ?_
             with_reducible refine (varint_Put.calls k (IntKind.u64.wrap (a0_2)) t124 _ A4.out).mono ?_
             rintro e w12 ⟨rfl, hb⟩
             refine ⟨_, rfl, ?_⟩
             replace BK119 := Aside0.mk (blk_below (bS BK119.out) hb)
             replace HB := Aside0.mk (below_step (by repeat (first | (with_reducible first | exact HB.out | apply below_alloc | apply pw_below_drewN | apply below_drew1 | refine below_set ?_ GE119.out) | exact HB.out)) hb)
             (try clear hb)
             (try clear hb2)
             (try clear hk)
             (try clear hi)
             refine hK.out _ _ ⟨(blk_cell BK119.out 0).trans rfl, (blk_cell BK119.out 1).trans rfl, (blk_cell BK119.out 2).trans rfl, (blk_cell BK119.out 3).trans rfl⟩ (fun hHeld => ?_)
             clear hK K
             refine norm_ (a' := ?_) ?_ ?_
             rotate_left
             ·show Act.put _ (some 19) _ = _
              simp only [Act.put, List.setIfInBounds_toArray, List.set_cons_zero, List.set_cons_succ, i64_w, i32_w]
              rfl
             exact norm_ (by first | (simp only [putAll, Act.put, List.setIfInBounds_toArray, List.set_cons_zero, List.set_cons_succ]; done) | (simp only [putAll, Act.put, List.setIfInBounds_toArray, List.set_cons_zero, List.set_cons_succ]; rfl)) (hJ12 () _ ⟨hHeld, (bS BK119.out), (by repeat (first | (with_reducible first | exact HB.out | apply below_alloc | apply pw_below_drewN | apply below_drew1 | refine below_set ?_ GE119.out) | exact HB.out))⟩)
           ·skip
            rintro _ w13 ⟨hS_, h0_, h1_⟩
            replace BK119 : Aside0 (w13.heap[gb119]? = some (.cells #[.int .i64 a0_0, .int .i64 a0_1, .int .i64 a0_2, .string a0_3] 23 (0, 0))) := ⟨h0_⟩
            replace HB : Aside0 (Below w.heap.size w w13) := ⟨h1_⟩
            clear h0_ h1_
            have hHeld : w13.cell? ⟨gb119, 0, none⟩ = some (.int .i64 a0_0) ∧ w13.cell? ⟨gb119, 1, none⟩ = some (.int .i64 a0_1) ∧ w13.cell? ⟨gb119, 2, none⟩ = some (.int .i64 a0_2) ∧ w13.cell? ⟨gb119, 3, none⟩ = some (.string a0_3) := hS_
            refine norm_ (a' := ?_) ?_ ?_
            rotate_left
            ·simp only [putAll, Act.put, List.setIfInBounds_toArray, List.set_cons_zero, List.set_cons_succ]
             rfl
            refine two_ (i := 7) (j := 16) (Ni := some 14) (Nj := some 23) #[true, true, true, true, true, true, true, true, false, true, true, true, true, false, true, true, false, false, false, false] #[true, true, true, true, true, true, true, false, false, true, true, true, true, false, true, true, true, false, false, false] rfl rfl rfl rfl (two_of HT_.out (by kernel_rfl)) (by decide) (by decide) (fun K hK => ?_) (fun K hK => ?_)
            ·skip
             refine Kd.R_lit_step (Kd.int .u8) _ 5 ?hg (N := 14) ?hd (xs := ([(a0_0) % 256, (wrap64 (a0_1 - (-128))) % 256] : List Int)) (inner := [.int .u8 ((a0_0) % 256), .int .u8 ((wrap64 (a0_1 - (-128))) % 256)]) (ok := fun _ => True) (okp := fun _ => True) ?hr ?hp (fun _ hk => hk) trivial (Below.refl _ _) (Nat.le_refl _) (by simp) ?_; (case hd => rfl); (case hg => rfl); (case hr => first | (go_simp; done) | (go_simp; rfl)); (case hp => exact (Reps.one (show Kd.M (Kd.int .u8) _ _ _ ((a0_0) % 256) [.int .u8 ((a0_0) % 256)] from rfl) (Reps.one (show Kd.M (Kd.int .u8) _ _ _ ((wrap64 (a0_1 - (-128))) % 256) [.int .u8 ((wrap64 (a0_1 - (-128))) % 256)] from rfl) (Reps.none _ _))))
             intro v122 w14 ho15 hb hg_ hnew_
             clear hg_ hnew_
             (first | rw [← Ny121.out] at ho15 | (simp only [Int.reduceToNat] at ho15; rw [← Ny121.out] at ho15))
             have HO123 := Aside0.mk (Kd.R_lower ho15 (below_size (by repeat (first | (with_reducible first | exact HB.out | apply below_alloc | apply pw_below_drewN | apply below_drew1 | refine below_set ?_ GE119.out) | exact HB.out))))
             replace BK119 := Aside0.mk (blk_below (bS BK119.out) hb)
             replace HB := Aside0.mk (below_step (by repeat (first | (with_reducible first | exact HB.out | apply below_alloc | apply pw_below_drewN | apply below_drew1 | refine below_set ?_ GE119.out) | exact HB.out)) hb)
             clear hb ho15
             refine hK.out _ _ ⟨(blk_cell BK119.out 0).trans rfl, (blk_cell BK119.out 1).trans rfl, (blk_cell BK119.out 2).trans rfl, (blk_cell BK119.out 3).trans rfl⟩ (fun hHeld => ?_)
             clear hK K
             refine norm_ (a' := ?_) ?_ ?_
             rotate_left
             ·show Act.put _ (some 14) _ = _
              simp only [Act.put, List.setIfInBounds_toArray, List.set_cons_zero, List.set_cons_succ, i64_w, i32_w]
              rfl
             exact norm_ (by first | (simp only [putAll, Act.put, List.setIfInBounds_toArray, List.set_cons_zero, List.set_cons_succ]; done) | (simp only [putAll, Act.put, List.setIfInBounds_toArray, List.set_cons_zero, List.set_cons_succ]; rfl)) (hJ7_12 (v122) _ ⟨hHeld, (rS HO123.out), (bS BK119.out), (by repeat (first | (with_reducible first | exact HB.out | apply below_alloc | apply pw_below_drewN | apply below_drew1 | refine below_set ?_ GE119.out) | exact HB.out))⟩)
            ·skip
             refine goes_ Try.func69 (by kernel_rfl) rfl #[.string a0_3] (by rfl) rfl rfl (by (try simp only [List.map_toArray, List.map_cons, List.map_nil]); first | done | rfl | (simp only [List.length_drop, List.length_take]; rfl)) ?_
             with_reducible refine (varint_Text.calls k a0_3 t125 _ A6.out).mono ?_
             rintro e w14 ⟨rfl, hb⟩
             refine ⟨_, rfl, ?_⟩
             replace BK119 := Aside0.mk (blk_below (bS BK119.out) hb)
             replace HB := Aside0.mk (below_step (by repeat (first | (with_reducible first | exact HB.out | apply below_alloc | apply pw_below_drewN | apply below_drew1 | refine below_set ?_ GE119.out) | exact HB.out)) hb)
             (try clear hb)
             (try clear hb2)
             (try clear hk)
             (try clear hi)
             refine hK.out _ _ ⟨(blk_cell BK119.out 0).trans rfl, (blk_cell BK119.out 1).trans rfl, (blk_cell BK119.out 2).trans rfl, (blk_cell BK119.out 3).trans rfl⟩ (fun hHeld => ?_)
             clear hK K
             refine norm_ (a' := ?_) ?_ ?_
             rotate_left
             ·show Act.put _ (some 23) _ = _
              simp only [Act.put, List.setIfInBounds_toArray, List.set_cons_zero, List.set_cons_succ, i64_w, i32_w]
              rfl
             exact norm_ (by first | (simp only [putAll, Act.put, List.setIfInBounds_toArray, List.set_cons_zero, List.set_cons_succ]; done) | (simp only [putAll, Act.put, List.setIfInBounds_toArray, List.set_cons_zero, List.set_cons_succ]; rfl)) (hJ12_16 () _ ⟨hHeld, (bS BK119.out), (by repeat (first | (with_reducible first | exact HB.out | apply below_alloc | apply pw_below_drewN | apply below_drew1 | refine below_set ?_ GE119.out) | exact HB.out))⟩)
          ·skip
           rintro v122 w14 ⟨hS_, h0_, h1_, h2_⟩
           have HO123 : Aside0 (Kd.R (Kd.int .u8) 5 w14 w.heap.size (fun _ => True) v122 y121) := ⟨h0_⟩
           replace BK119 : Aside0 (w14.heap[gb119]? = some (.cells #[.int .i64 a0_0, .int .i64 a0_1, .int .i64 a0_2, .string a0_3] 23 (0, 0))) := ⟨h1_⟩
           replace HB : Aside0 (Below w.heap.size w w14) := ⟨h2_⟩
           clear h0_ h1_ h2_
           have hHeld : w14.cell? ⟨gb119, 0, none⟩ = some (.int .i64 a0_0) ∧ w14.cell? ⟨gb119, 1, none⟩ = some (.int .i64 a0_1) ∧ w14.cell? ⟨gb119, 2, none⟩ = some (.int .i64 a0_2) ∧ w14.cell? ⟨gb119, 3, none⟩ = some (.string a0_3) := hS_
           refine norm_ (a' := ?_) ?_ ?_
           rotate_left
           ·simp only [putAll, Act.put, List.setIfInBounds_toArray, List.set_cons_zero, List.set_cons_succ]
            rfl
           refine two_ (i := 8) (j := 12) (Ni := some 15) (Nj := some 19) #[true, true, true, true, true, true, true, true, true, true, true, true, false, false, true, true, false, false, false, false] #[true, true, true, true, true, true, true, true, false, true, true, true, true, false, true, true, false, false, false, false] rfl rfl rfl rfl (two_of HT_.out (by kernel_rfl)) (by decide) (by decide) (fun K hK => ?_) (fun K hK => ?_)
           ·skip
            have hcv15 := own_string (P := Try.prog) Try.underlying40 Try.underlying5 Try.underlying9 (Kd.own_of_R HO123.out)
            refine value_ (w1 := ?_) (v := ?_) (by rfl) rfl ?_ ?_
            rotate_left 2
            ·go_simp
             constructor
             ·rfl
             ·rfl
            clear hcv15
            refine hK.out _ _ ⟨(blk_cell BK119.out 0).trans rfl, (blk_cell BK119.out 1).trans rfl, (blk_cell BK119.out 2).trans rfl, (blk_cell BK119.out 3).trans rfl⟩ (fun hHeld => ?_)
            clear hK K
            refine norm_ (a' := ?_) ?_ ?_
            rotate_left
            ·show Act.put _ (some 15) _ = _
             simp only [Act.put, List.setIfInBounds_toArray, List.set_cons_zero, List.set_cons_succ, i64_w, i32_w]
             rfl
            exact norm_ (by first | (simp only [putAll, Act.put, List.setIfInBounds_toArray, List.set_cons_zero, List.set_cons_succ]; done) | (simp only [putAll, Act.put, List.setIfInBounds_toArray, List.set_cons_zero, List.set_cons_succ]; rfl)) (hJ7_8 (v122) _ ⟨hHeld, (rS HO123.out), (bS BK119.out), (by repeat (first | (with_reducible first | exact HB.out | apply below_alloc | apply pw_below_drewN | apply below_drew1 | refine below_set ?_ GE119.out) | exact HB.out))⟩)
           ·skip
            refine goes_ Try.func39 (by kernel_rfl) rfl #[.int .u64 (IntKind.u64.wrap (a0_2))] (by rfl) rfl rfl (by (try simp only [List.map_toArray, List.map_cons, List.map_nil]); first | done | rfl | (simp only [List.length_drop, List.length_take]; rfl)) ?_
            with_reducible refine (varint_Put.calls k (IntKind.u64.wrap (a0_2)) t124 _ A4.out).mono ?_
            rintro e w15 ⟨rfl, hb⟩
            refine ⟨_, rfl, ?_⟩
            replace HO123 := Aside0.mk (Kd.R_below (rS HO123.out) hb)
            replace BK119 := Aside0.mk (blk_below (bS BK119.out) hb)
            replace HB := Aside0.mk (below_step (by repeat (first | (with_reducible first | exact HB.out | apply below_alloc | apply pw_below_drewN | apply below_drew1 | refine below_set ?_ GE119.out) | exact HB.out)) hb)
            (try clear hb)
            (try clear hb2)
            (try clear hk)
            (try clear hi)
            refine hK.out _ _ ⟨(blk_cell BK119.out 0).trans rfl, (blk_cell BK119.out 1).trans rfl, (blk_cell BK119.out 2).trans rfl, (blk_cell BK119.out 3).trans rfl⟩ (fun hHeld => ?_)
            clear hK K
            refine norm_ (a' := ?_) ?_ ?_
            rotate_left
            ·show Act.put _ (some 19) _ = _
             simp only [Act.put, List.setIfInBounds_toArray, List.set_cons_zero, List.set_cons_succ, i64_w, i32_w]
             rfl
            exact norm_ (by first | (simp only [putAll, Act.put, List.setIfInBounds_toArray, List.set_cons_zero, List.set_cons_succ]; done) | (simp only [putAll, Act.put, List.setIfInBounds_toArray, List.set_cons_zero, List.set_cons_succ]; rfl)) (hJ7_12 (v122) _ ⟨hHeld, (rS HO123.out), (bS BK119.out), (by repeat (first | (with_reducible first | exact HB.out | apply below_alloc | apply pw_below_drewN | apply below_drew1 | refine below_set ?_ GE119.out) | exact HB.out))⟩)
         ·skip
          rintro _ w14 ⟨hS_, h0_, h1_⟩
          replace BK119 : Aside0 (w14.heap[gb119]? = some (.cells #[.int .i64 a0_0, .int .i64 a0_1, .int .i64 a0_2, .string a0_3] 23 (0, 0))) := ⟨h0_⟩
          replace HB : Aside0 (Below w.heap.size w w14) := ⟨h1_⟩
          clear h0_ h1_
          have hHeld : w14.cell? ⟨gb119, 0, none⟩ = some (.int .i64 a0_0) ∧ w14.cell? ⟨gb119, 1, none⟩ = some (.int .i64 a0_1) ∧ w14.cell? ⟨gb119, 2, none⟩ = some (.int .i64 a0_2) ∧ w14.cell? ⟨gb119, 3, none⟩ = some (.string a0_3) := hS_
          refine norm_ (a' := ?_) ?_ ?_
          rotate_left
          ·simp only [putAll, Act.put, List.setIfInBounds_toArray, List.set_cons_zero, List.set_cons_succ]
           rfl
          refine one_ (i := 7) (N := some 14) #[true, true, true, true, true, true, true, true, false, true, true, true, true, false, true, true, true, false, false, false] rfl rfl (one_of HT_.out (by kernel_rfl)) (by decide) (fun K hK => ?_)
          refine Kd.R_lit_step (Kd.int .u8) _ 5 ?hg (N := 14) ?hd (xs := ([(a0_0) % 256, (wrap64 (a0_1 - (-128))) % 256] : List Int)) (inner := [.int .u8 ((a0_0) % 256), .int .u8 ((wrap64 (a0_1 - (-128))) % 256)]) (ok := fun _ => True) (okp := fun _ => True) ?hr ?hp (fun _ hk => hk) trivial (Below.refl _ _) (Nat.le_refl _) (by simp) ?_; (case hd => rfl); (case hg => rfl); (case hr => first | (go_simp; done) | (go_simp; rfl)); (case hp => exact (Reps.one (show Kd.M (Kd.int .u8) _ _ _ ((a0_0) % 256) [.int .u8 ((a0_0) % 256)] from rfl) (Reps.one (show Kd.M (Kd.int .u8) _ _ _ ((wrap64 (a0_1 - (-128))) % 256) [.int .u8 ((wrap64 (a0_1 - (-128))) % 256)] from rfl) (Reps.none _ _))))
          intro v122 w15 ho16 hb hg_ hnew_
          clear hg_ hnew_
          (first | rw [← Ny121.out] at ho16 | (simp only [Int.reduceToNat] at ho16; rw [← Ny121.out] at ho16))
          have HO123 := Aside0.mk (Kd.R_lower ho16 (below_size (by repeat (first | (with_reducible first | exact HB.out | apply below_alloc | apply pw_below_drewN | apply below_drew1 | refine below_set ?_ GE119.out) | exact HB.out))))
          replace BK119 := Aside0.mk (blk_below (bS BK119.out) hb)
          replace HB := Aside0.mk (below_step (by repeat (first | (with_reducible first | exact HB.out | apply below_alloc | apply pw_below_drewN | apply below_drew1 | refine below_set ?_ GE119.out) | exact HB.out)) hb)
          clear hb ho16
          refine hK.out _ _ ⟨(blk_cell BK119.out 0).trans rfl, (blk_cell BK119.out 1).trans rfl, (blk_cell BK119.out 2).trans rfl, (blk_cell BK119.out 3).trans rfl⟩ (fun hHeld => ?_)
          clear hK K
          refine norm_ (a' := ?_) ?_ ?_
          rotate_left
          ·show Act.put _ (some 14) _ = _
           simp only [Act.put, List.setIfInBounds_toArray, List.set_cons_zero, List.set_cons_succ, i64_w, i32_w]
           rfl
          exact norm_ (by first | (simp only [putAll, Act.put, List.setIfInBounds_toArray, List.set_cons_zero, List.set_cons_succ]; done) | (simp only [putAll, Act.put, List.setIfInBounds_toArray, List.set_cons_zero, List.set_cons_succ]; rfl)) (hJ7_12_16 (v122) _ ⟨hHeld, (rS HO123.out), (bS BK119.out), (by repeat (first | (with_reducible first | exact HB.out | apply below_alloc | apply pw_below_drewN | apply below_drew1 | refine below_set ?_ GE119.out) | exact HB.out))⟩)
        ·skip
         rintro v122 w15 ⟨hS_, h0_, h1_, h2_⟩
         have HO123 : Aside0 (Kd.R (Kd.int .u8) 5 w15 w.heap.size (fun _ => True) v122 y121) := ⟨h0_⟩
         replace BK119 : Aside0 (w15.heap[gb119]? = some (.cells #[.int .i64 a0_0, .int .i64 a0_1, .int .i64 a0_2, .string a0_3] 23 (0, 0))) := ⟨h1_⟩
         replace HB : Aside0 (Below w.heap.size w w15) := ⟨h2_⟩
         clear h0_ h1_ h2_
         have hHeld : w15.cell? ⟨gb119, 0, none⟩ = some (.int .i64 a0_0) ∧ w15.cell? ⟨gb119, 1, none⟩ = some (.int .i64 a0_1) ∧ w15.cell? ⟨gb119, 2, none⟩ = some (.int .i64 a0_2) ∧ w15.cell? ⟨gb119, 3, none⟩ = some (.string a0_3) := hS_
         refine norm_ (a' := ?_) ?_ ?_
         rotate_left
         ·simp only [putAll, Act.put, List.setIfInBounds_toArray, List.set_cons_zero, List.set_cons_succ]
          rfl
         refine two_ (i := 8) (j := 16) (Ni := some 15) (Nj := some 23) #[true, true, true, true, true, true, true, true, true, true, true, true, true, false, true, true, false, false, false, false] #[true, true, true, true, true, true, true, true, false, true, true, true, true, false, true, true, true, false, false, false] rfl rfl rfl rfl (two_of HT_.out (by kernel_rfl)) (by decide) (by decide) (fun K hK => ?_) (fun K hK => ?_)
         ·skip
          have hcv16 := own_string (P := Try.prog) Try.underlying40 Try.underlying5 Try.underlying9 (Kd.own_of_R HO123.out)
          refine value_ (w1 := ?_) (v := ?_) (by rfl) rfl ?_ ?_
          rotate_left 2
          ·go_simp
           constructor
           ·rfl
           ·rfl
          clear hcv16
          refine hK.out _ _ ⟨(blk_cell BK119.out 0).trans rfl, (blk_cell BK119.out 1).trans rfl, (blk_cell BK119.out 2).trans rfl, (blk_cell BK119.out 3).trans rfl⟩ (fun hHeld => ?_)
          clear hK K
          refine norm_ (a' := ?_) ?_ ?_
          rotate_left
          ·show Act.put _ (some 15) _ = _
           simp only [Act.put, List.setIfInBounds_toArray, List.set_cons_zero, List.set_cons_succ, i64_w, i32_w]
           rfl
          refine pure_ (i := 13) (N := some 20) (v := ?_) (a' := ?_) #[true, true, true, true, true, true, true, true, true, true, true, true, true, true, true, true, false, false, false, false] rfl rfl (any_of HT_.out (by kernel_rfl)) (fun _ _ _ h => h) (Or.inl ⟨by rfl, ?_⟩) ?_ ?_
          rotate_left
          ·intro w'
           go_simp
           with_reducible rfl
          rotate_left
          ·simp only [Act.put, List.setIfInBounds_toArray, List.set_cons_zero, List.set_cons_succ, i64_w, i32_w]
           rfl
          exact norm_ (by first | (simp only [putAll, Act.put, List.setIfInBounds_toArray, List.set_cons_zero, List.set_cons_succ]; done) | (simp only [putAll, Act.put, List.setIfInBounds_toArray, List.set_cons_zero, List.set_cons_succ]; rfl)) (hJ7_8_12 (v122) _ ⟨hHeld, (rS HO123.out), (bS BK119.out), (by repeat (first | (with_reducible first | exact HB.out | apply below_alloc | apply pw_below_drewN | apply below_drew1 | refine below_set ?_ GE119.out) | exact HB.out))⟩)
         ·skip
          refine goes_ Try.func69 (by kernel_rfl) rfl #[.string a0_3] (by rfl) rfl rfl (by (try simp only [List.map_toArray, List.map_cons, List.map_nil]); first | done | rfl | (simp only [List.length_drop, List.length_take]; rfl)) ?_
          with_reducible refine (varint_Text.calls k a0_3 t125 _ A6.out).mono ?_
          rintro e w16 ⟨rfl, hb⟩
          refine ⟨_, rfl, ?_⟩
          replace HO123 := Aside0.mk (Kd.R_below (rS HO123.out) hb)
          replace BK119 := Aside0.mk (blk_below (bS BK119.out) hb)
          replace HB := Aside0.mk (below_step (by repeat (first | (with_reducible first | exact HB.out | apply below_alloc | apply pw_below_drewN | apply below_drew1 | refine below_set ?_ GE119.out) | exact HB.out)) hb)
          (try clear hb)
          (try clear hb2)
          (try clear hk)
          (try clear hi)
          refine hK.out _ _ ⟨(blk_cell BK119.out 0).trans rfl, (blk_cell BK119.out 1).trans rfl, (blk_cell BK119.out 2).trans rfl, (blk_cell BK119.out 3).trans rfl⟩ (fun hHeld => ?_)
          clear hK K
          refine norm_ (a' := ?_) ?_ ?_
          rotate_left
          ·show Act.put _ (some 23) _ = _
           simp only [Act.put, List.setIfInBounds_toArray, List.set_cons_zero, List.set_cons_succ, i64_w, i32_w]
           rfl
          exact norm_ (by first | (simp only [putAll, Act.put, List.setIfInBounds_toArray, List.set_cons_zero, List.set_cons_succ]; done) | (simp only [putAll, Act.put, List.setIfInBounds_toArray, List.set_cons_zero, List.set_cons_succ]; rfl)) (hJ7_12_16 (v122) _ ⟨hHeld, (rS HO123.out), (bS BK119.out), (by repeat (first | (with_reducible first | exact HB.out | apply below_alloc | apply pw_below_drewN | apply below_drew1 | refine below_set ?_ GE119.out) | exact HB.out))⟩)
       ·skip
        rintro v122 w15 ⟨hS_, h0_, h1_, h2_⟩
        have HO123 : Aside0 (Kd.R (Kd.int .u8) 5 w15 w.heap.size (fun _ => True) v122 y121) := ⟨h0_⟩
        replace BK119 : Aside0 (w15.heap[gb119]? = some (.cells #[.int .i64 a0_0, .int .i64 a0_1, .int .i64 a0_2, .string a0_3] 23 (0, 0))) := ⟨h1_⟩
        replace HB : Aside0 (Below w.heap.size w w15) := ⟨h2_⟩
        clear h0_ h1_ h2_
        have hHeld : w15.cell? ⟨gb119, 0, none⟩ = some (.int .i64 a0_0) ∧ w15.cell? ⟨gb119, 1, none⟩ = some (.int .i64 a0_1) ∧ w15.cell? ⟨gb119, 2, none⟩ = some (.int .i64 a0_2) ∧ w15.cell? ⟨gb119, 3, none⟩ = some (.string a0_3) := hS_
        refine norm_ (a' := ?_) ?_ ?_
        rotate_left
        ·simp only [putAll, Act.put, List.setIfInBounds_toArray, List.set_cons_zero, List.set_cons_succ]
         rfl
        refine one_ (i := 12) (N := some 19) #[true, true, true, true, true, true, true, true, true, true, true, true, true, false, true, true, false, false, false, false] rfl rfl (one_of HT_.out (by kernel_rfl)) (by decide) (fun K hK => ?_)
        refine goes_ Try.func39 (by kernel_rfl) rfl #[.int .u64 (IntKind.u64.wrap (a0_2))] (by rfl) rfl rfl (by (try simp only [List.map_toArray, List.map_cons, List.map_nil]); first | done | rfl | (simp only [List.length_drop, List.length_take]; rfl)) ?_
        with_reducible refine (varint_Put.calls k (IntKind.u64.wrap (a0_2)) t124 _ A4.out).mono ?_
        rintro e w16 ⟨rfl, hb⟩
        refine ⟨_, rfl, ?_⟩
        replace HO123 := Aside0.mk (Kd.R_below (rS HO123.out) hb)
        replace BK119 := Aside0.mk (blk_below (bS BK119.out) hb)
        replace HB := Aside0.mk (below_step (by repeat (first | (with_reducible first | exact HB.out | apply below_alloc | apply pw_below_drewN | apply below_drew1 | refine below_set ?_ GE119.out) | exact HB.out)) hb)
        (try clear hb)
        (try clear hb2)
        (try clear hk)
        (try clear hi)
        refine hK.out _ _ ⟨(blk_cell BK119.out 0).trans rfl, (blk_cell BK119.out 1).trans rfl, (blk_cell BK119.out 2).trans rfl, (blk_cell BK119.out 3).trans rfl⟩ (fun hHeld => ?_)
        clear hK K
        refine norm_ (a' := ?_) ?_ ?_
        rotate_left
        ·show Act.put _ (some 19) _ = _
         simp only [Act.put, List.setIfInBounds_toArray, List.set_cons_zero, List.set_cons_succ, i64_w, i32_w]
         rfl
        refine pure_ (i := 13) (N := some 20) (v := ?_) (a' := ?_) #[true, true, true, true, true, true, true, true, true, true, true, true, true, true, true, true, false, false, false, false] rfl rfl (any_of HT_.out (by kernel_rfl)) (fun _ _ _ h => h) (Or.inl ⟨by rfl, ?_⟩) ?_ ?_
        rotate_left
        ·intro w'
         go_simp
         with_reducible rfl
        rotate_left
        ·simp only [Act.put, List.setIfInBounds_toArray, List.set_cons_zero, List.set_cons_succ, i64_w, i32_w]
         rfl
        exact norm_ (by first | (simp only [putAll, Act.put, List.setIfInBounds_toArray, List.set_cons_zero, List.set_cons_succ]; done) | (simp only [putAll, Act.put, List.setIfInBounds_toArray, List.set_cons_zero, List.set_cons_succ]; rfl)) (hJ7_8_12 (v122) _ ⟨hHeld, (rS HO123.out), (bS BK119.out), (by repeat (first | (with_reducible first | exact HB.out | apply below_alloc | apply pw_below_drewN | apply below_drew1 | refine below_set ?_ GE119.out) | exact HB.out))⟩)
      ·skip
       rintro v122 w16 ⟨hS_, h0_, h1_, h2_⟩
       have HO123 : Aside0 (Kd.R (Kd.int .u8) 5 w16 w.heap.size (fun _ => True) v122 y121) := ⟨h0_⟩
       replace BK119 : Aside0 (w16.heap[gb119]? = some (.cells #[.int .i64 a0_0, .int .i64 a0_1, .int .i64 a0_2, .string a0_3] 23 (0, 0))) := ⟨h1_⟩
       replace HB : Aside0 (Below w.heap.size w w16) := ⟨h2_⟩
       clear h0_ h1_ h2_
       have hHeld : w16.cell? ⟨gb119, 0, none⟩ = some (.int .i64 a0_0) ∧ w16.cell? ⟨gb119, 1, none⟩ = some (.int .i64 a0_1) ∧ w16.cell? ⟨gb119, 2, none⟩ = some (.int .i64 a0_2) ∧ w16.cell? ⟨gb119, 3, none⟩ = some (.string a0_3) := hS_
       refine norm_ (a' := ?_) ?_ ?_
       rotate_left
       ·simp only [putAll, Act.put, List.setIfInBounds_toArray, List.set_cons_zero, List.set_cons_succ]
        rfl
       refine one_ (i := 8) (N := some 15) #[true, true, true, true, true, true, true, true, true, true, true, true, true, false, true, true, true, false, false, false] rfl rfl (one_of HT_.out (by kernel_rfl)) (by decide) (fun K hK => ?_)
       have hcv17 := own_string (P := Try.prog) Try.underlying40 Try.underlying5 Try.underlying9 (Kd.own_of_R HO123.out)
       refine value_ (w1 := ?_) (v := ?_) (by rfl) rfl ?_ ?_
       rotate_left 2
       ·go_simp
        constructor
        ·rfl
        ·rfl
       clear hcv17
       refine hK.out _ _ ⟨(blk_cell BK119.out 0).trans rfl, (blk_cell BK119.out 1).trans rfl, (blk_cell BK119.out 2).trans rfl, (blk_cell BK119.out 3).trans rfl⟩ (fun hHeld => ?_)
       clear hK K
       refine norm_ (a' := ?_) ?_ ?_
       rotate_left
       ·show Act.put _ (some 15) _ = _
        simp only [Act.put, List.setIfInBounds_toArray, List.set_cons_zero, List.set_cons_succ, i64_w, i32_w]
        rfl
       refine pure_ (i := 13) (N := some 20) (v := ?_) (a' := ?_) #[true, true, true, true, true, true, true, true, true, true, true, true, true, true, true, true, true, false, false, false] rfl rfl (any_of HT_.out (by kernel_rfl)) (fun _ _ _ h => h) (Or.inl ⟨by rfl, ?_⟩) ?_ ?_
       rotate_left
       ·intro w'
        go_simp
        with_reducible rfl
       rotate_left
       ·simp only [Act.put, List.setIfInBounds_toArray, List.set_cons_zero, List.set_cons_succ, i64_w, i32_w]
        rfl
       exact norm_ (by first | (simp only [putAll, Act.put, List.setIfInBounds_toArray, List.set_cons_zero, List.set_cons_succ]; done) | (simp only [putAll, Act.put, List.setIfInBounds_toArray, List.set_cons_zero, List.set_cons_succ]; rfl)) (hJ7_8_12_16 (v122) _ ⟨hHeld, (rS HO123.out), (bS BK119.out), (by repeat (first | (with_reducible first | exact HB.out | apply below_alloc | apply pw_below_drewN | apply below_drew1 | refine below_set ?_ GE119.out) | exact HB.out))⟩)
     ·skip
      rintro v122 w16 ⟨hS_, h0_, h1_, h2_⟩
      have HO123 : Aside0 (Kd.R (Kd.int .u8) 5 w16 w.heap.size (fun _ => True) v122 y121) := ⟨h0_⟩
      replace BK119 : Aside0 (w16.heap[gb119]? = some (.cells #[.int .i64 a0_0, .int .i64 a0_1, .int .i64 a0_2, .string a0_3] 23 (0, 0))) := ⟨h1_⟩
      replace HB : Aside0 (Below w.heap.size w w16) := ⟨h2_⟩
      clear h0_ h1_ h2_
      have hHeld : w16.cell? ⟨gb119, 0, none⟩ = some (.int .i64 a0_0) ∧ w16.cell? ⟨gb119, 1, none⟩ = some (.int .i64 a0_1) ∧ w16.cell? ⟨gb119, 2, none⟩ = some (.int .i64 a0_2) ∧ w16.cell? ⟨gb119, 3, none⟩ = some (.string a0_3) := hS_
      refine norm_ (a' := ?_) ?_ ?_
      rotate_left
      ·simp only [putAll, Act.put, List.setIfInBounds_toArray, List.set_cons_zero, List.set_cons_succ]
       rfl
      refine one_ (i := 16) (N := some 23) #[true, true, true, true, true, true, true, true, true, true, true, true, true, true, true, true, true, false, false, false] rfl rfl (one_of HT_.out (by kernel_rfl)) (by decide) (fun K hK => ?_)
      refine goes_ Try.func69 (by kernel_rfl) rfl #[.string a0_3] (by rfl) rfl rfl (by (try simp only [List.map_toArray, List.map_cons, List.map_nil]); first | done | rfl | (simp only [List.length_drop, List.length_take]; rfl)) ?_
      with_reducible refine (varint_Text.calls k a0_3 t125 _ A6.out).mono ?_
      rintro e w17 ⟨rfl, hb⟩
      refine ⟨_, rfl, ?_⟩
      replace HO123 := Aside0.mk (Kd.R_below (rS HO123.out) hb)
      replace BK119 := Aside0.mk (blk_below (bS BK119.out) hb)
      replace HB := Aside0.mk (below_step (by repeat (first | (with_reducible first | exact HB.out | apply below_alloc | apply pw_below_drewN | apply below_drew1 | refine below_set ?_ GE119.out) | exact HB.out)) hb)
      (try clear hb)
      (try clear hb2)
      (try clear hk)
      (try clear hi)
      refine hK.out _ _ ⟨(blk_cell BK119.out 0).trans rfl, (blk_cell BK119.out 1).trans rfl, (blk_cell BK119.out 2).trans rfl, (blk_cell BK119.out 3).trans rfl⟩ (fun hHeld => ?_)
      clear hK K
      refine norm_ (a' := ?_) ?_ ?_
      rotate_left
      ·show Act.put _ (some 23) _ = _
       simp only [Act.put, List.setIfInBounds_toArray, List.set_cons_zero, List.set_cons_succ, i64_w, i32_w]
       rfl
      exact norm_ (by first | (simp only [putAll, Act.put, List.setIfInBounds_toArray, List.set_cons_zero, List.set_cons_succ]; done) | (simp only [putAll, Act.put, List.setIfInBounds_toArray, List.set_cons_zero, List.set_cons_succ]; rfl)) (hJ7_8_12_16 (v122) _ ⟨hHeld, (rS HO123.out), (bS BK119.out), (by repeat (first | (with_reducible first | exact HB.out | apply below_alloc | apply pw_below_drewN | apply below_drew1 | refine below_set ?_ GE119.out) | exact HB.out))⟩)
    rintro v122 w17 ⟨hS_, h0_, h1_, h2_⟩
    have HO123 : Aside0 (Kd.R (Kd.int .u8) 5 w17 w.heap.size (fun _ => True) v122 y121) := ⟨h0_⟩
    replace BK119 : Aside0 (w17.heap[gb119]? = some (.cells #[.int .i64 a0_0, .int .i64 a0_1, .int .i64 a0_2, .string a0_3] 23 (0, 0))) := ⟨h1_⟩
    replace HB : Aside0 (Below w.heap.size w w17) := ⟨h2_⟩
    clear h0_ h1_ h2_
    have hHeld : w17.cell? ⟨gb119, 0, none⟩ = some (.int .i64 a0_0) ∧ w17.cell? ⟨gb119, 1, none⟩ = some (.int .i64 a0_1) ∧ w17.cell? ⟨gb119, 2, none⟩ = some (.int .i64 a0_2) ∧ w17.cell? ⟨gb119, 3, none⟩ = some (.string a0_3) := hS_
    refine norm_ (a' := ?_) ?_ ?_
    rotate_left
    ·simp only [putAll, Act.put, List.setIfInBounds_toArray, List.set_cons_zero, List.set_cons_succ]
     rfl
    refine pure_ (i := 17) (N := some 24) (v := ?_) (a' := ?_) #[true, true, true, true, true, true, true, true, true, true, true, true, true, true, true, true, true, true, false, false] rfl rfl (any_of HT_.out (by kernel_rfl)) (fun _ _ _ h => h) (Or.inl ⟨by rfl, ?_⟩) ?_ ?_
    rotate_left
    ·intro w'
     go_simp
     with_reducible rfl
    rotate_left
    ·simp only [Act.put, List.setIfInBounds_toArray, List.set_cons_zero, List.set_cons_succ, i64_w, i32_w]
     rfl
    refine pure_ (i := 18) (N := some 2) (v := ?_) (a' := ?_) #[true, true, true, true, true, true, true, true, true, true, true, true, true, true, true, true, true, true, true, false] rfl rfl (any_of HT_.out (by kernel_rfl)) (fun _ _ _ h => h) (Or.inl ⟨by rfl, ?_⟩) ?_ ?_
    rotate_left
    ·intro w'
     go_simp
     with_reducible rfl
    rotate_left
    ·simp only [Act.put, List.setIfInBounds_toArray, List.set_cons_zero, List.set_cons_succ, i64_w, i32_w]
     rfl
    refine pure_ (i := 19) (N := some 3) (v := ?_) (a' := ?_) #[true, true, true, true, true, true, true, true, true, true, true, true, true, true, true, true, true, true, true, true] rfl rfl (any_of HT_.out (by kernel_rfl)) (fun _ _ _ h => h) (Or.inl ⟨by rfl, ?_⟩) ?_ ?_
    rotate_left
    ·intro w'
     go_simp
     with_reducible rfl
    rotate_left
    ·simp only [Act.put, List.setIfInBounds_toArray, List.set_cons_zero, List.set_cons_succ, i64_w, i32_w]
     rfl
    refine done_ (done_of HT_.out (by kernel_rfl)) ?_
    try go_wp2
    go_ret2
    exact ⟨by first | rfl | (simp [errW_none, errW_some] <;> rfl) | (simp [*, errW_none, errW_some] <;> rfl), by repeat (first | (with_reducible first | exact HB.out | apply below_alloc | apply pw_below_drewN | apply below_drew1 | refine below_set ?_ GE119.out) | exact HB.out)⟩
   ·rw [if_neg c7] at H
    exact absurd H (by simp)
  ·rw [if_neg c5] at H
   exact absurd H (by simp)
 ·replace c3 := Bool.eq_false_iff.mpr c3
  subst c3
  have H1 : (some ((⟨#[]⟩ : ByteArray), false)) = some (r1, r2) := by rw [if_neg (show ¬ (false = true) by decide)] at H; exact H
  clear H
  have H := H1
  clear H1
  simp only [Option.some.injEq, Prod.mk.injEq] at H
  obtain ⟨rfl, rfl⟩ := H
  go_enter Try.func62, Try.ntmps62
  go_wp2_with (first | ((with_reducible refine gate_dst (N := 1) rfl ?_); refine box_event ?hg (N := 1) ?hd (cs := #[.int .i64 a0_0, .int .i64 a0_1, .int .i64 a0_2, .string a0_3]) (t := 23) ?hr ?_; (case hd => rfl); (case hg => rfl); (case hr => first | (go_simp; done) | (go_simp; rfl)); intro gb119 hg w18 hbox hb; have BK119 := Aside0.mk (hbox); have GW119 := Aside0.mk ((by rw [hg]; exact (below_size (hS HB.out)) : w.heap.size ≤ gb119)); have GE119 := Aside0.mk ((by rw [hg]; exact (below_size (hS HB.out)) : w.heap.size ≤ gb119)); replace HB := Aside0.mk (below_step (hS HB.out) hb); clear hb hbox hg; have hcz19_0 : w18.cell? ⟨gb119, 0, none⟩ = some (.int .i64 a0_0) := (blk_cell BK119.out 0).trans rfl; have hcz19_1 : w18.cell? ⟨gb119, 1, none⟩ = some (.int .i64 a0_1) := (blk_cell BK119.out 1).trans rfl; have hcz19_2 : w18.cell? ⟨gb119, 2, none⟩ = some (.int .i64 a0_2) := (blk_cell BK119.out 2).trans rfl; have hcz19_3 : w18.cell? ⟨gb119, 3, none⟩ = some (.string a0_3) := (blk_cell BK119.out 3).trans rfl; have hfz19_0 := blk_frozen BK119.out 0; have hfz19_1 := blk_frozen BK119.out 1; have hfz19_2 := blk_frozen BK119.out 2; have hfz19_3 := blk_frozen BK119.out 3) | ((with_reducible refine gate_callee (f := 70) rfl ?_); refine goesL_ (some 5) rfl rfl Try.func70 (by kernel_rfl) rfl #[.agg #[.int .i64 a0_0, .int .i64 a0_1, .int .i64 a0_2, .string a0_3]] rfl (by (try simp only [List.map_toArray, List.map_cons, List.map_nil]); first | done | rfl | (simp only [List.length_drop, List.length_take]; rfl)) ?_; (with_reducible refine (value_May.calls a0_0 a0_1 a0_2 a0_3 false _ A2.out).mono ?_); rintro e w20 ⟨rfl, hb⟩; refine ⟨_, rfl, ?_⟩; replace BK119 := Aside0.mk (blk_below (bS BK119.out) hb); replace HB := Aside0.mk (below_step (hS HB.out) hb); (try clear hb); (try clear hb2); (try clear hk); (try clear hi)))
  go_ret2
  exact ⟨by first | rfl | (simp [errW_none, errW_some] <;> rfl) | (simp [*, errW_none, errW_some] <;> rfl), by repeat (first | (with_reducible first | exact HB.out | apply below_alloc | apply pw_below_drewN | apply below_drew1 | refine below_set ?_ GE119.out) | exact HB.out)⟩

/-! ### frame_delta: function 49 -/
def frame_delta.f (k : Nat) (a0_0 : Int) (a0_1 : Int) (a0_2 : Bool) (a0_3 : ByteArray) (a0_4 : Int) (a0_5 : Int) (a0_6 : Int) (a0_7 : ByteArray) (a0_8 : Int) (l0_9 : List (S52)) : Option (ByteArray × Bool) := (ident_Put.f k a0_3).bind fun bt127 => (if a0_2 = true then ((value_Put.f k a0_4 a0_5 a0_6 a0_7).bind fun bt129 => (if 1 + bt127.1.size ≤ 9223372036854775807 then (if ((⟨#[1]⟩ : ByteArray) ++ bt127.1).size + bt129.1.size ≤ 9223372036854775807 then (if bt127.2 = true then (some (((⟨#[1]⟩ : ByteArray) ++ bt127.1) ++ bt129.1, bt129.2)) else (some (((⟨#[1]⟩ : ByteArray) ++ bt127.1) ++ bt129.1, false))) else (none)) else (none))) else (if 1 + bt127.1.size ≤ 9223372036854775807 then (some ((⟨#[0]⟩ : ByteArray) ++ bt127.1, bt127.2)) else (none)))
set_option maxHeartbeats 8000000 in
set_option maxRecDepth 100000 in
theorem frame_delta.calls (k : Nat) (a0_0 : Int) (a0_1 : Int) (a0_2 : Bool) (a0_3 : ByteArray) (a0_4 : Int) (a0_5 : Int) (a0_6 : Int) (a0_7 : ByteArray) (a0_8 : Int) (A0_9 : Option Addr) (c0_9 : Nat) (l0_9 : List (S52)) (r1 : ByteArray) (r2 : Bool) (w : World) (hr0_9 : Kd.C k52 w A0_9 l0_9.length l0_9) (hc0_9 : l0_9.length ≤ c0_9) (h : frame_delta.f k a0_0 a0_1 a0_2 a0_3 a0_4 a0_5 a0_6 a0_7 a0_8 l0_9 = some (r1, r2)) :
  Calls Try.prog 49 #[.agg #[.int .i64 a0_0, .int .i64 a0_1, .bool a0_2, .string a0_3, .int .i64 a0_4, .int .i64 a0_5, .int .i64 a0_6, .string a0_7, .int .u64 a0_8, .slice A0_9 l0_9.length c0_9]] w fun e w' => e = .returned (.tuple #[.string r1, .bool r2]) ∧ Below w.heap.size w w' := by
 have hu27 := Try.underlying27
 have hu23 := Try.underlying23
 have HR0_9 := Aside0.mk hr0_9
 have HC0_9 := Aside0.mk hc0_9
 clear hr0_9 hc0_9
 have HB := Aside0.mk (Below.refl w.heap.size w)
 have H : ((ident_Put.f k a0_3).bind fun bt127 => (if a0_2 = true then ((value_Put.f k a0_4 a0_5 a0_6 a0_7).bind fun bt129 => (if 1 + bt127.1.size ≤ 9223372036854775807 then (if ((⟨#[1]⟩ : ByteArray) ++ bt127.1).size + bt129.1.size ≤ 9223372036854775807 then (if bt127.2 = true then (some (((⟨#[1]⟩ : ByteArray) ++ bt127.1) ++ bt129.1, bt129.2)) else (some (((⟨#[1]⟩ : ByteArray) ++ bt127.1) ++ bt129.1, false))) else (none)) else (none))) else (if 1 + bt127.1.size ≤ 9223372036854775807 then (some ((⟨#[0]⟩ : ByteArray) ++ bt127.1, bt127.2)) else (none)))) = some (r1, r2) := h
 clear h
 replace H := Option.bind_eq_some_iff.mp H
 obtain ⟨⟨t127, t128⟩, A20, H⟩ := H
 replace H : (if a0_2 = true then ((value_Put.f k a0_4 a0_5 a0_6 a0_7).bind fun bt129 => (if 1 + t127.size ≤ 9223372036854775807 then (if ((⟨#[1]⟩ : ByteArray) ++ t127).size + bt129.1.size ≤ 9223372036854775807 then (if t128 = true then (some (((⟨#[1]⟩ : ByteArray) ++ t127) ++ bt129.1, bt129.2)) else (some (((⟨#[1]⟩ : ByteArray) ++ t127) ++ bt129.1, false))) else (none)) else (none))) else (if 1 + t127.size ≤ 9223372036854775807 then (some ((⟨#[0]⟩ : ByteArray) ++ t127, t128)) else (none))) = some (r1, r2) := H
 have A2 := Aside0.mk A20
 clear A20
 by_cases c3 : a0_2 = true
 ·subst c3
  have H1 : ((value_Put.f k a0_4 a0_5 a0_6 a0_7).bind fun bt129 => (if 1 + t127.size ≤ 9223372036854775807 then (if ((⟨#[1]⟩ : ByteArray) ++ t127).size + bt129.1.size ≤ 9223372036854775807 then (if t128 = true then (some (((⟨#[1]⟩ : ByteArray) ++ t127) ++ bt129.1, bt129.2)) else (some (((⟨#[1]⟩ : ByteArray) ++ t127) ++ bt129.1, false))) else (none)) else (none))) = some (r1, r2) := by rw [if_pos rfl] at H; exact H
  clear H
  have H := H1
  clear H1
  replace H := Option.bind_eq_some_iff.mp H
  obtain ⟨⟨t129, t130⟩, A40, H⟩ := H
  replace H : (if 1 + t127.size ≤ 9223372036854775807 then (if ((⟨#[1]⟩ : ByteArray) ++ t127).size + t129.size ≤ 9223372036854775807 then (if t128 = true then (some (((⟨#[1]⟩ : ByteArray) ++ t127) ++ t129, t130)) else (some (((⟨#[1]⟩ : ByteArray) ++ t127) ++ t129, false))) else (none)) else (none)) = some (r1, r2) := H
  have A4 := Aside0.mk A40
  clear A40
  by_cases c5 : 1 + t127.size ≤ 9223372036854775807
  ·rw [if_pos c5] at H
   have c5b0 := eq_true c5
   have c5b1 : decide (1 + t127.size ≤ 9223372036854775807) = true := decide_eq_true c5
   try have c5b2 : (9223372036854775807 < 1 + t127.size) = False := eq_false (Nat.not_lt.2 c5)
   (try (have c5b3 := c5b0; simp only [ByteArray.size_append] at c5b3))
   (try (have c5b4 := c5b2; simp only [ByteArray.size_append] at c5b4))
   (try (have c5b5 := c5b3; simp only [show (⟨#[1]⟩ : ByteArray).size = 1 from rfl, show (⟨#[0]⟩ : ByteArray).size = 1 from rfl] at c5b5))
   (try (have c5b6 := c5b4; simp only [show (⟨#[1]⟩ : ByteArray).size = 1 from rfl, show (⟨#[0]⟩ : ByteArray).size = 1 from rfl] at c5b6))
   clear c5
   by_cases c6 : ((⟨#[1]⟩ : ByteArray) ++ t127).size + t129.size ≤ 9223372036854775807
   ·rw [if_pos c6] at H
    have c6b0 := eq_true c6
    have c6b1 : decide (((⟨#[1]⟩ : ByteArray) ++ t127).size + t129.size ≤ 9223372036854775807) = true := decide_eq_true c6
    try have c6b2 : (9223372036854775807 < ((⟨#[1]⟩ : ByteArray) ++ t127).size + t129.size) = False := eq_false (Nat.not_lt.2 c6)
    (try (have c6b3 := c6b0; simp only [ByteArray.size_append] at c6b3))
    (try (have c6b4 := c6b2; simp only [ByteArray.size_append] at c6b4))
    (try (have c6b5 := c6b3; simp only [show (⟨#[1]⟩ : ByteArray).size = 1 from rfl, show (⟨#[0]⟩ : ByteArray).size = 1 from rfl] at c6b5))
    (try (have c6b6 := c6b4; simp only [show (⟨#[1]⟩ : ByteArray).size = 1 from rfl, show (⟨#[0]⟩ : ByteArray).size = 1 from rfl] at c6b6))
    clear c6
    by_cases c7 : t128 = true
    ·subst c7
     have H1 : (some (((⟨#[1]⟩ : ByteArray) ++ t127) ++ t129, t130)) = some (r1, r2) := by rw [if_pos rfl] at H; exact H
     clear H
     have H := H1
     clear H1
     simp only [Option.some.injEq, Prod.mk.injEq] at H
     obtain ⟨rfl, rfl⟩ := H
     go_enter Try.func49, Try.ntmps49
     go_wp2_with (first | ((with_reducible refine gate_dst (N := 1) rfl ?_); refine box_event ?hg (N := 1) ?hd (cs := #[.int .i64 a0_0, .int .i64 a0_1, .bool true, .string a0_3, .int .i64 a0_4, .int .i64 a0_5, .int .i64 a0_6, .string a0_7, .int .u64 a0_8, .slice A0_9 l0_9.length c0_9]) (t := 27) ?hr ?_; (case hd => rfl); (case hg => rfl); (case hr => first | (go_simp; done) | (go_simp; rfl)); intro gb126 hg w8 hbox hb; have BK126 := Aside0.mk (hbox); have GW126 := Aside0.mk ((by rw [hg]; exact (below_size (hS HB.out)) : w.heap.size ≤ gb126)); have GE126 := Aside0.mk ((by rw [hg]; exact (below_size (hS HB.out)) : w.heap.size ≤ gb126)); replace HB := Aside0.mk (below_step (hS HB.out) hb); clear hb hbox hg; have hcz9_0 : w8.cell? ⟨gb126, 0, none⟩ = some (.int .i64 a0_0) := (blk_cell BK126.out 0).trans rfl; have hcz9_1 : w8.cell? ⟨gb126, 1, none⟩ = some (.int .i64 a0_1) := (blk_cell BK126.out 1).trans rfl; have hcz9_2 : w8.cell? ⟨gb126, 2, none⟩ = some (.bool true) := (blk_cell BK126.out 2).trans rfl; have hcz9_3 : w8.cell? ⟨gb126, 3, none⟩ = some (.string a0_3) := (blk_cell BK126.out 3).trans rfl; have hcz9_4 : w8.cell? ⟨gb126, 4, none⟩ = some (.int .i64 a0_4) := (blk_cell BK126.out 4).trans rfl; have hcz9_5 : w8.cell? ⟨gb126, 5, none⟩ = some (.int .i64 a0_5) := (blk_cell BK126.out 5).trans rfl; have hcz9_6 : w8.cell? ⟨gb126, 6, none⟩ = some (.int .i64 a0_6) := (blk_cell BK126.out 6).trans rfl; have hcz9_7 : w8.cell? ⟨gb126, 7, none⟩ = some (.string a0_7) := (blk_cell BK126.out 7).trans rfl; have hcz9_8 : w8.cell? ⟨gb126, 8, none⟩ = some (.int .u64 a0_8) := (blk_cell BK126.out 8).trans rfl; have hcz9_9 : w8.cell? ⟨gb126, 9, none⟩ = some (.slice A0_9 l0_9.length c0_9) := (blk_cell BK126.out 9).trans rfl; have hfz9_0 := blk_frozen BK126.out 0; have hfz9_1 := blk_frozen BK126.out 1; have hfz9_2 := blk_frozen BK126.out 2; have hfz9_3 := blk_frozen BK126.out 3; have hfz9_4 := blk_frozen BK126.out 4; have hfz9_5 := blk_frozen BK126.out 5; have hfz9_6 := blk_frozen BK126.out 6; have hfz9_7 := blk_frozen BK126.out 7; have hfz9_8 := blk_frozen BK126.out 8; have hfz9_9 := blk_frozen BK126.out 9) | ((with_reducible refine gate_callee (f := 61) rfl ?_); refine goesL_ (some 11) rfl rfl Try.func61 (by kernel_rfl) rfl #[.string a0_3] rfl (by (try simp only [List.map_toArray, List.map_cons, List.map_nil]); first | done | rfl | (simp only [List.length_drop, List.length_take]; rfl)) ?_; (with_reducible refine (ident_Put.calls k a0_3 t127 true _ A2.out).mono ?_); rintro e w10 ⟨rfl, hb⟩; refine ⟨_, rfl, ?_⟩; replace BK126 := Aside0.mk (blk_below (bS BK126.out) hb); replace HB := Aside0.mk (below_step (hS HB.out) hb); (try clear hb); (try clear hb2); (try clear hk); (try clear hi); have hcz11_0 : w10.cell? ⟨gb126, 0, none⟩ = some (.int .i64 a0_0) := (blk_cell BK126.out 0).trans rfl; have hcz11_1 : w10.cell? ⟨gb126, 1, none⟩ = some (.int .i64 a0_1) := (blk_cell BK126.out 1).trans rfl; have hcz11_2 : w10.cell? ⟨gb126, 2, none⟩ = some (.bool true) := (blk_cell BK126.out 2).trans rfl; have hcz11_3 : w10.cell? ⟨gb126, 3, none⟩ = some (.string a0_3) := (blk_cell BK126.out 3).trans rfl; have hcz11_4 : w10.cell? ⟨gb126, 4, none⟩ = some (.int .i64 a0_4) := (blk_cell BK126.out 4).trans rfl; have hcz11_5 : w10.cell? ⟨gb126, 5, none⟩ = some (.int .i64 a0_5) := (blk_cell BK126.out 5).trans rfl; have hcz11_6 : w10.cell? ⟨gb126, 6, none⟩ = some (.int .i64 a0_6) := (blk_cell BK126.out 6).trans rfl; have hcz11_7 : w10.cell? ⟨gb126, 7, none⟩ = some (.string a0_7) := (blk_cell BK126.out 7).trans rfl; have hcz11_8 : w10.cell? ⟨gb126, 8, none⟩ = some (.int .u64 a0_8) := (blk_cell BK126.out 8).trans rfl; have hcz11_9 : w10.cell? ⟨gb126, 9, none⟩ = some (.slice A0_9 l0_9.length c0_9) := (blk_cell BK126.out 9).trans rfl; have hfz11_0 := blk_frozen BK126.out 0; have hfz11_1 := blk_frozen BK126.out 1; have hfz11_2 := blk_frozen BK126.out 2; have hfz11_3 := blk_frozen BK126.out 3; have hfz11_4 := blk_frozen BK126.out 4; have hfz11_5 := blk_frozen BK126.out 5; have hfz11_6 := blk_frozen BK126.out 6; have hfz11_7 := blk_frozen BK126.out 7; have hfz11_8 := blk_frozen BK126.out 8; have hfz11_9 := blk_frozen BK126.out 9) | ((with_reducible refine gate_callee (f := 62) rfl ?_); refine goesL_ (some 23) rfl rfl Try.func62 (by kernel_rfl) rfl #[.agg #[.int .i64 a0_4, .int .i64 a0_5, .int .i64 a0_6, .string a0_7]] rfl (by (try simp only [List.map_toArray, List.map_cons, List.map_nil]); first | done | rfl | (simp only [List.length_drop, List.length_take]; rfl)) ?_; (with_reducible refine (value_Put.calls k a0_4 a0_5 a0_6 a0_7 t129 t130 _ A4.out).mono ?_); rintro e w12 ⟨rfl, hb⟩; refine ⟨_, rfl, ?_⟩; replace BK126 := Aside0.mk (blk_below (bS BK126.out) hb); replace HB := Aside0.mk (below_step (hS HB.out) hb); (try clear hb); (try clear hb2); (try clear hk); (try clear hi)))
     go_ret2
     exact ⟨by first | rfl | (simp [errW_none, errW_some] <;> rfl) | (simp [*, errW_none, errW_some] <;> rfl), by repeat (first | (with_reducible first | exact HB.out | apply below_alloc | apply pw_below_drewN | apply below_drew1 | refine below_set ?_ GE126.out) | exact HB.out)⟩
    ·replace c7 := Bool.eq_false_iff.mpr c7
     subst c7
     have H1 : (some (((⟨#[1]⟩ : ByteArray) ++ t127) ++ t129, false)) = some (r1, r2) := by rw [if_neg (show ¬ (false = true) by decide)] at H; exact H
     clear H
     have H := H1
     clear H1
     simp only [Option.some.injEq, Prod.mk.injEq] at H
     obtain ⟨rfl, rfl⟩ := H
     go_enter Try.func49, Try.ntmps49
     go_wp2_with (first | ((with_reducible refine gate_dst (N := 1) rfl ?_); refine box_event ?hg (N := 1) ?hd (cs := #[.int .i64 a0_0, .int .i64 a0_1, .bool true, .string a0_3, .int .i64 a0_4, .int .i64 a0_5, .int .i64 a0_6, .string a0_7, .int .u64 a0_8, .slice A0_9 l0_9.length c0_9]) (t := 27) ?hr ?_; (case hd => rfl); (case hg => rfl); (case hr => first | (go_simp; done) | (go_simp; rfl)); intro gb126 hg w13 hbox hb; have BK126 := Aside0.mk (hbox); have GW126 := Aside0.mk ((by rw [hg]; exact (below_size (hS HB.out)) : w.heap.size ≤ gb126)); have GE126 := Aside0.mk ((by rw [hg]; exact (below_size (hS HB.out)) : w.heap.size ≤ gb126)); replace HB := Aside0.mk (below_step (hS HB.out) hb); clear hb hbox hg; have hcz14_0 : w13.cell? ⟨gb126, 0, none⟩ = some (.int .i64 a0_0) := (blk_cell BK126.out 0).trans rfl; have hcz14_1 : w13.cell? ⟨gb126, 1, none⟩ = some (.int .i64 a0_1) := (blk_cell BK126.out 1).trans rfl; have hcz14_2 : w13.cell? ⟨gb126, 2, none⟩ = some (.bool true) := (blk_cell BK126.out 2).trans rfl; have hcz14_3 : w13.cell? ⟨gb126, 3, none⟩ = some (.string a0_3) := (blk_cell BK126.out 3).trans rfl; have hcz14_4 : w13.cell? ⟨gb126, 4, none⟩ = some (.int .i64 a0_4) := (blk_cell BK126.out 4).trans rfl; have hcz14_5 : w13.cell? ⟨gb126, 5, none⟩ = some (.int .i64 a0_5) := (blk_cell BK126.out 5).trans rfl; have hcz14_6 : w13.cell? ⟨gb126, 6, none⟩ = some (.int .i64 a0_6) := (blk_cell BK126.out 6).trans rfl; have hcz14_7 : w13.cell? ⟨gb126, 7, none⟩ = some (.string a0_7) := (blk_cell BK126.out 7).trans rfl; have hcz14_8 : w13.cell? ⟨gb126, 8, none⟩ = some (.int .u64 a0_8) := (blk_cell BK126.out 8).trans rfl; have hcz14_9 : w13.cell? ⟨gb126, 9, none⟩ = some (.slice A0_9 l0_9.length c0_9) := (blk_cell BK126.out 9).trans rfl; have hfz14_0 := blk_frozen BK126.out 0; have hfz14_1 := blk_frozen BK126.out 1; have hfz14_2 := blk_frozen BK126.out 2; have hfz14_3 := blk_frozen BK126.out 3; have hfz14_4 := blk_frozen BK126.out 4; have hfz14_5 := blk_frozen BK126.out 5; have hfz14_6 := blk_frozen BK126.out 6; have hfz14_7 := blk_frozen BK126.out 7; have hfz14_8 := blk_frozen BK126.out 8; have hfz14_9 := blk_frozen BK126.out 9) | ((with_reducible refine gate_callee (f := 61) rfl ?_); refine goesL_ (some 11) rfl rfl Try.func61 (by kernel_rfl) rfl #[.string a0_3] rfl (by (try simp only [List.map_toArray, List.map_cons, List.map_nil]); first | done | rfl | (simp only [List.length_drop, List.length_take]; rfl)) ?_; (with_reducible refine (ident_Put.calls k a0_3 t127 false _ A2.out).mono ?_); rintro e w15 ⟨rfl, hb⟩; refine ⟨_, rfl, ?_⟩; replace BK126 := Aside0.mk (blk_below (bS BK126.out) hb); replace HB := Aside0.mk (below_step (hS HB.out) hb); (try clear hb); (try clear hb2); (try clear hk); (try clear hi); have hcz16_0 : w15.cell? ⟨gb126, 0, none⟩ = some (.int .i64 a0_0) := (blk_cell BK126.out 0).trans rfl; have hcz16_1 : w15.cell? ⟨gb126, 1, none⟩ = some (.int .i64 a0_1) := (blk_cell BK126.out 1).trans rfl; have hcz16_2 : w15.cell? ⟨gb126, 2, none⟩ = some (.bool true) := (blk_cell BK126.out 2).trans rfl; have hcz16_3 : w15.cell? ⟨gb126, 3, none⟩ = some (.string a0_3) := (blk_cell BK126.out 3).trans rfl; have hcz16_4 : w15.cell? ⟨gb126, 4, none⟩ = some (.int .i64 a0_4) := (blk_cell BK126.out 4).trans rfl; have hcz16_5 : w15.cell? ⟨gb126, 5, none⟩ = some (.int .i64 a0_5) := (blk_cell BK126.out 5).trans rfl; have hcz16_6 : w15.cell? ⟨gb126, 6, none⟩ = some (.int .i64 a0_6) := (blk_cell BK126.out 6).trans rfl; have hcz16_7 : w15.cell? ⟨gb126, 7, none⟩ = some (.string a0_7) := (blk_cell BK126.out 7).trans rfl; have hcz16_8 : w15.cell? ⟨gb126, 8, none⟩ = some (.int .u64 a0_8) := (blk_cell BK126.out 8).trans rfl; have hcz16_9 : w15.cell? ⟨gb126, 9, none⟩ = some (.slice A0_9 l0_9.length c0_9) := (blk_cell BK126.out 9).trans rfl; have hfz16_0 := blk_frozen BK126.out 0; have hfz16_1 := blk_frozen BK126.out 1; have hfz16_2 := blk_frozen BK126.out 2; have hfz16_3 := blk_frozen BK126.out 3; have hfz16_4 := blk_frozen BK126.out 4; have hfz16_5 := blk_frozen BK126.out 5; have hfz16_6 := blk_frozen BK126.out 6; have hfz16_7 := blk_frozen BK126.out 7; have hfz16_8 := blk_frozen BK126.out 8; have hfz16_9 := blk_frozen BK126.out 9) | ((with_reducible refine gate_callee (f := 62) rfl ?_); refine goesL_ (some 23) rfl rfl Try.func62 (by kernel_rfl) rfl #[.agg #[.int .i64 a0_4, .int .i64 a0_5, .int .i64 a0_6, .string a0_7]] rfl (by (try simp only [List.map_toArray, List.map_cons, List.map_nil]); first | done | rfl | (simp only [List.length_drop, List.length_take]; rfl)) ?_; (with_reducible refine (value_Put.calls k a0_4 a0_5 a0_6 a0_7 t129 t130 _ A4.out).mono ?_); rintro e w17 ⟨rfl, hb⟩; refine ⟨_, rfl, ?_⟩; replace BK126 := Aside0.mk (blk_below (bS BK126.out) hb); replace HB := Aside0.mk (below_step (hS HB.out) hb); (try clear hb); (try clear hb2); (try clear hk); (try clear hi)))
     go_ret2
     exact ⟨by first | rfl | (simp [errW_none, errW_some] <;> rfl) | (simp [*, errW_none, errW_some] <;> rfl), by repeat (first | (with_reducible first | exact HB.out | apply below_alloc | apply pw_below_drewN | apply below_drew1 | refine below_set ?_ GE126.out) | exact HB.out)⟩
   ·rw [if_neg c6] at H
    exact absurd H (by simp)
  ·rw [if_neg c5] at H
   exact absurd H (by simp)
 ·replace c3 := Bool.eq_false_iff.mpr c3
  subst c3
  have H1 : (if 1 + t127.size ≤ 9223372036854775807 then (some ((⟨#[0]⟩ : ByteArray) ++ t127, t128)) else (none)) = some (r1, r2) := by rw [if_neg (show ¬ (false = true) by decide)] at H; exact H
  clear H
  have H := H1
  clear H1
  by_cases c18 : 1 + t127.size ≤ 9223372036854775807
  ·rw [if_pos c18] at H
   have c18b0 := eq_true c18
   have c18b1 : decide (1 + t127.size ≤ 9223372036854775807) = true := decide_eq_true c18
   try have c18b2 : (9223372036854775807 < 1 + t127.size) = False := eq_false (Nat.not_lt.2 c18)
   (try (have c18b3 := c18b0; simp only [ByteArray.size_append] at c18b3))
   (try (have c18b4 := c18b2; simp only [ByteArray.size_append] at c18b4))
   (try (have c18b5 := c18b3; simp only [show (⟨#[1]⟩ : ByteArray).size = 1 from rfl, show (⟨#[0]⟩ : ByteArray).size = 1 from rfl] at c18b5))
   (try (have c18b6 := c18b4; simp only [show (⟨#[1]⟩ : ByteArray).size = 1 from rfl, show (⟨#[0]⟩ : ByteArray).size = 1 from rfl] at c18b6))
   clear c18
   simp only [Option.some.injEq, Prod.mk.injEq] at H
   obtain ⟨rfl, rfl⟩ := H
   go_enter Try.func49, Try.ntmps49
   go_wp2_with (first | ((with_reducible refine gate_dst (N := 1) rfl ?_); refine box_event ?hg (N := 1) ?hd (cs := #[.int .i64 a0_0, .int .i64 a0_1, .bool false, .string a0_3, .int .i64 a0_4, .int .i64 a0_5, .int .i64 a0_6, .string a0_7, .int .u64 a0_8, .slice A0_9 l0_9.length c0_9]) (t := 27) ?hr ?_; (case hd => rfl); (case hg => rfl); (case hr => first | (go_simp; done) | (go_simp; rfl)); intro gb126 hg w19 hbox hb; have BK126 := Aside0.mk (hbox); have GW126 := Aside0.mk ((by rw [hg]; exact (below_size (hS HB.out)) : w.heap.size ≤ gb126)); have GE126 := Aside0.mk ((by rw [hg]; exact (below_size (hS HB.out)) : w.heap.size ≤ gb126)); replace HB := Aside0.mk (below_step (hS HB.out) hb); clear hb hbox hg; have hcz20_0 : w19.cell? ⟨gb126, 0, none⟩ = some (.int .i64 a0_0) := (blk_cell BK126.out 0).trans rfl; have hcz20_1 : w19.cell? ⟨gb126, 1, none⟩ = some (.int .i64 a0_1) := (blk_cell BK126.out 1).trans rfl; have hcz20_2 : w19.cell? ⟨gb126, 2, none⟩ = some (.bool false) := (blk_cell BK126.out 2).trans rfl; have hcz20_3 : w19.cell? ⟨gb126, 3, none⟩ = some (.string a0_3) := (blk_cell BK126.out 3).trans rfl; have hcz20_4 : w19.cell? ⟨gb126, 4, none⟩ = some (.int .i64 a0_4) := (blk_cell BK126.out 4).trans rfl; have hcz20_5 : w19.cell? ⟨gb126, 5, none⟩ = some (.int .i64 a0_5) := (blk_cell BK126.out 5).trans rfl; have hcz20_6 : w19.cell? ⟨gb126, 6, none⟩ = some (.int .i64 a0_6) := (blk_cell BK126.out 6).trans rfl; have hcz20_7 : w19.cell? ⟨gb126, 7, none⟩ = some (.string a0_7) := (blk_cell BK126.out 7).trans rfl; have hcz20_8 : w19.cell? ⟨gb126, 8, none⟩ = some (.int .u64 a0_8) := (blk_cell BK126.out 8).trans rfl; have hcz20_9 : w19.cell? ⟨gb126, 9, none⟩ = some (.slice A0_9 l0_9.length c0_9) := (blk_cell BK126.out 9).trans rfl; have hfz20_0 := blk_frozen BK126.out 0; have hfz20_1 := blk_frozen BK126.out 1; have hfz20_2 := blk_frozen BK126.out 2; have hfz20_3 := blk_frozen BK126.out 3; have hfz20_4 := blk_frozen BK126.out 4; have hfz20_5 := blk_frozen BK126.out 5; have hfz20_6 := blk_frozen BK126.out 6; have hfz20_7 := blk_frozen BK126.out 7; have hfz20_8 := blk_frozen BK126.out 8; have hfz20_9 := blk_frozen BK126.out 9) | ((with_reducible refine gate_callee (f := 61) rfl ?_); refine goesL_ (some 11) rfl rfl Try.func61 (by kernel_rfl) rfl #[.string a0_3] rfl (by (try simp only [List.map_toArray, List.map_cons, List.map_nil]); first | done | rfl | (simp only [List.length_drop, List.length_take]; rfl)) ?_; (with_reducible refine (ident_Put.calls k a0_3 t127 t128 _ A2.out).mono ?_); rintro e w21 ⟨rfl, hb⟩; refine ⟨_, rfl, ?_⟩; replace BK126 := Aside0.mk (blk_below (bS BK126.out) hb); replace HB := Aside0.mk (below_step (hS HB.out) hb); (try clear hb); (try clear hb2); (try clear hk); (try clear hi); have hcz22_0 : w21.cell? ⟨gb126, 0, none⟩ = some (.int .i64 a0_0) := (blk_cell BK126.out 0).trans rfl; have hcz22_1 : w21.cell? ⟨gb126, 1, none⟩ = some (.int .i64 a0_1) := (blk_cell BK126.out 1).trans rfl; have hcz22_2 : w21.cell? ⟨gb126, 2, none⟩ = some (.bool false) := (blk_cell BK126.out 2).trans rfl; have hcz22_3 : w21.cell? ⟨gb126, 3, none⟩ = some (.string a0_3) := (blk_cell BK126.out 3).trans rfl; have hcz22_4 : w21.cell? ⟨gb126, 4, none⟩ = some (.int .i64 a0_4) := (blk_cell BK126.out 4).trans rfl; have hcz22_5 : w21.cell? ⟨gb126, 5, none⟩ = some (.int .i64 a0_5) := (blk_cell BK126.out 5).trans rfl; have hcz22_6 : w21.cell? ⟨gb126, 6, none⟩ = some (.int .i64 a0_6) := (blk_cell BK126.out 6).trans rfl; have hcz22_7 : w21.cell? ⟨gb126, 7, none⟩ = some (.string a0_7) := (blk_cell BK126.out 7).trans rfl; have hcz22_8 : w21.cell? ⟨gb126, 8, none⟩ = some (.int .u64 a0_8) := (blk_cell BK126.out 8).trans rfl; have hcz22_9 : w21.cell? ⟨gb126, 9, none⟩ = some (.slice A0_9 l0_9.length c0_9) := (blk_cell BK126.out 9).trans rfl; have hfz22_0 := blk_frozen BK126.out 0; have hfz22_1 := blk_frozen BK126.out 1; have hfz22_2 := blk_frozen BK126.out 2; have hfz22_3 := blk_frozen BK126.out 3; have hfz22_4 := blk_frozen BK126.out 4; have hfz22_5 := blk_frozen BK126.out 5; have hfz22_6 := blk_frozen BK126.out 6; have hfz22_7 := blk_frozen BK126.out 7; have hfz22_8 := blk_frozen BK126.out 8; have hfz22_9 := blk_frozen BK126.out 9))
   go_ret2
   exact ⟨by first | rfl | (simp [errW_none, errW_some] <;> rfl) | (simp [*, errW_none, errW_some] <;> rfl), by repeat (first | (with_reducible first | exact HB.out | apply below_alloc | apply pw_below_drewN | apply below_drew1 | refine below_set ?_ GE126.out) | exact HB.out)⟩
  ·rw [if_neg c18] at H
   exact absurd H (by simp)

/-! ### varint_Get: function 42 -/
abbrev varint_Get.f := @Go.Proofs.Ytjccgdnnnlgeeaa.XGet.varint_Get.f
set_option maxHeartbeats 1000000 in
theorem varint_Get.calls (a0 : ByteArray) (a1 : Int) (r1 : Int) (r2 : Int) (r3 : Int) (w : World) (h : varint_Get.f a0 a1 = some (r1, r2, r3)) :
  Calls Try.prog 42 #[.string a0, .int .i64 a1] w fun e w' => e = .returned (.tuple #[.int .u64 r1, .int .i64 r2, .int .i64 r3]) ∧ Drawn0 w w' := Go.Proofs.Ytjccgdnnnlgeeaa.XGet.varint_Get.calls a0 a1 r1 r2 r3 w h

end Go.Proofs.Ytjccgdnnnlgeeaa.PA
end

section
-- Written by a program of this session (wip/tools/xprint.py), which drives the kit's print.
namespace Go.Proofs.Ytjccgdnnnlgeeaa.PA
open Go.RowKit Go.Proofs.YtjccgdnnnlgeeaaW.PrintWords Go.Proofs.YtjccgdnnnlgeeaaW.PrintLast Go.Proofs.YtjccgdnnnlgeeaaW.PrintMore
attribute [local go_sem] min2_int min_two   -- for this text's walks alone
set_option linter.unusedVariables false
set_option linter.unusedSimpArgs false

/-! ### frame_sum: function 51 -/
def frame_sum.l0 : Nat → List Int → Int → Int → Int → Bool → ByteArray → Int → Int → Int → ByteArray → Int → List (S52) → Option (ByteArray × Bool)
 | 0, _, _, _, _, _, _, _, _, _, _, _, _ => none
 | k + 1, x4, x5, x157000, x157001, x157002, x157003, x157004, x157005, x157006, x157007, x157008, x157009 => if x5 ≥ 0 then (if 0 ≤ (wrap64 (8 * x5)) then (if x4.length < 140737488355328 then (frame_sum.l0 k (x4 ++ [(shr .u64 x157008 (wrap64 (8 * x5))) % 256]) (wrap64 (x5 - 1)) x157000 x157001 x157002 x157003 x157004 x157005 x157006 x157007 x157008 x157009) else (none)) else (none)) else (some (strOfNums x4, true))
def frame_sum.f (k : Nat) (a0_0 : Int) (a0_1 : Int) (a0_2 : Bool) (a0_3 : ByteArray) (a0_4 : Int) (a0_5 : Int) (a0_6 : Int) (a0_7 : ByteArray) (a0_8 : Int) (l0_9 : List (S52)) : Option (ByteArray × Bool) := frame_sum.l0 k ([] : List Int) 7 a0_0 a0_1 a0_2 a0_3 a0_4 a0_5 a0_6 a0_7 a0_8 l0_9
set_option maxHeartbeats 8000000 in
set_option maxRecDepth 100000 in
theorem frame_sum.calls (k : Nat) (a0_0 : Int) (a0_1 : Int) (a0_2 : Bool) (a0_3 : ByteArray) (a0_4 : Int) (a0_5 : Int) (a0_6 : Int) (a0_7 : ByteArray) (a0_8 : Int) (A0_9 : Option Addr) (c0_9 : Nat) (l0_9 : List (S52)) (r1 : ByteArray) (r2 : Bool) (w : World) (hr0_9 : Kd.C k52 w A0_9 l0_9.length l0_9) (hc0_9 : l0_9.length ≤ c0_9) (h : frame_sum.f k a0_0 a0_1 a0_2 a0_3 a0_4 a0_5 a0_6 a0_7 a0_8 l0_9 = some (r1, r2)) :
  Calls Try.prog 51 #[.agg #[.int .i64 a0_0, .int .i64 a0_1, .bool a0_2, .string a0_3, .int .i64 a0_4, .int .i64 a0_5, .int .i64 a0_6, .string a0_7, .int .u64 a0_8, .slice A0_9 l0_9.length c0_9]] w fun e w' => e = .returned (.tuple #[.string r1, .bool r2]) ∧ Below w.heap.size w w' := by
 have hu27 := Try.underlying27
 have HR0_9 := Aside0.mk hr0_9
 have HC0_9 := Aside0.mk hc0_9
 clear hr0_9 hc0_9
 have HB := Aside0.mk (Below.refl w.heap.size w)
 have H : (frame_sum.l0 k ([] : List Int) 7 a0_0 a0_1 a0_2 a0_3 a0_4 a0_5 a0_6 a0_7 a0_8 l0_9) = some (r1, r2) := h
 clear h
 have H' := Aside0.mk H
 clear H
 go_enter Try.func51, Try.ntmps51
 go_wp2_with (first | ((with_reducible refine gate_dst (N := 1) rfl ?_); refine box_event ?hg (N := 1) ?hd (cs := #[.int .i64 a0_0, .int .i64 a0_1, .bool a0_2, .string a0_3, .int .i64 a0_4, .int .i64 a0_5, .int .i64 a0_6, .string a0_7, .int .u64 a0_8, .slice A0_9 l0_9.length c0_9]) (t := 27) ?hr ?_; (case hd => rfl); (case hg => rfl); (case hr => first | (go_simp; done) | (go_simp; rfl)); intro gb156 hg w2 hbox hb; have BK156 := Aside0.mk (hbox); have GW156 := Aside0.mk ((by rw [hg]; exact (below_size (hS HB.out)) : w.heap.size ≤ gb156)); have GE156 := Aside0.mk ((by rw [hg]; exact (below_size (hS HB.out)) : w.heap.size ≤ gb156)); replace HB := Aside0.mk (below_step (hS HB.out) hb); clear hb hbox hg))
 go_loopg [4, 5] k (fun kq v4 v5 w' => ∃ (x4_1 : List Int) (x5_1 : Int), v5 = .int .i64 x5_1 ∧ Aside0 (frame_sum.l0 kq x4_1 x5_1 a0_0 a0_1 a0_2 a0_3 a0_4 a0_5 a0_6 a0_7 a0_8 l0_9 = some (r1, r2)) ∧ Aside0 (kq ≤ k) ∧ Aside0 (Kd.R (Kd.int .u8) 5 w' w.heap.size (fun _ => True) v4 x4_1) ∧ Aside0 (w'.heap[gb156]? = some (.cells #[.int .i64 a0_0, .int .i64 a0_1, .bool a0_2, .string a0_3, .int .i64 a0_4, .int .i64 a0_5, .int .i64 a0_6, .string a0_7, .int .u64 a0_8, (.slice A0_9 l0_9.length c0_9)] 27 (0, 0))) ∧ Aside0 (Below w.heap.size w w'))
 case atStart => exact ⟨(([] : List Int)), (7), (by first | rfl | (simp; done) | (simp [*]; done)), H', ⟨Nat.le_refl _⟩, ⟨by first | exact Kd.R_nil _ _ _ _ _ | exact Kd.N_nil _ _ _ _ _ | exact Kd.V_nil _ _ _ _ _ | exact Kd.Q_nil _ _ _ _ _ | exact Kd.S_nil _ _ _ _ _⟩, ⟨bS BK156.out⟩, ⟨by repeat (first | (with_reducible first | exact HB.out | apply below_alloc | apply pw_below_drewN | apply below_drew1 | refine below_set ?_ GE156.out) | exact HB.out)⟩⟩
 case round =>
  clear H'
  try clear p2
  obtain ⟨x4_1, x5_1, rfl, HA, HK1, HO_4, BK156, HB⟩ := hrel
  cases gk with
  | zero => exact absurd HA.out (by simp [frame_sum.l0])
  | succ k1 =>
   have H := HA.out
   clear HA
   simp only [frame_sum.l0] at H
   by_cases c3 : x5_1 ≥ 0
   ·rw [if_pos c3] at H
    have c3b0 : decide (0 ≤ x5_1) = true := decide_eq_true c3
    clear c3
    obtain ⟨ji4, hji4⟩ : ∃ j_ : Int, (wrap64 (8 * x5_1)) = j_ := ⟨_, rfl⟩
    replace H : (if 0 ≤ (ji4) then (if x4_1.length < 140737488355328 then (frame_sum.l0 k1 (x4_1 ++ [(shr .u64 a0_8 (ji4)) % 256]) (wrap64 (x5_1 - 1)) a0_0 a0_1 a0_2 a0_3 a0_4 a0_5 a0_6 a0_7 a0_8 l0_9) else (none)) else (none)) = some (r1, r2) := by first | (rw [hji4] at H; exact H) | (simp only [hji4] at H ⊢; exact H)
    have hji4w : (IntKind.i64.wrap (8 * x5_1)) = ji4 := (i64_w _).trans hji4
    by_cases c5 : 0 ≤ (ji4)
    ·rw [if_pos c5] at H
     have c5b0 := eq_true c5
     have c5b1 : decide (0 ≤ (ji4)) = true := decide_eq_true c5
     clear c5
     obtain ⟨ji6, hji6⟩ : ∃ j_ : Int, (shr .u64 a0_8 (ji4)) = j_ := ⟨_, rfl⟩
     replace H : (if x4_1.length < 140737488355328 then (frame_sum.l0 k1 (x4_1 ++ [(ji6) % 256]) (wrap64 (x5_1 - 1)) a0_0 a0_1 a0_2 a0_3 a0_4 a0_5 a0_6 a0_7 a0_8 l0_9) else (none)) = some (r1, r2) := by first | (rw [hji6] at H; exact H) | (simp only [hji6] at H ⊢; exact H)
     have hji6_ : (a0_8 / 2 ^ min (ji4).toNat 64) = ji6 := hji6
     have hji6z : (ji4) ≤ 64 → (a0_8 / 2 ^ (ji4).toNat) = ji6 := shr_small hji6
     by_cases c7 : x4_1.length < 140737488355328
     ·rw [if_pos c7] at H
      have LMc7 := Aside0.mk c7
      clear c7
      obtain ⟨y157, hy157⟩ : ∃ y_ : List Int, y_ = (x4_1 ++ [(ji6) % 256]) := ⟨_, rfl⟩
      replace H : (frame_sum.l0 k1 y157 (wrap64 (x5_1 - 1)) a0_0 a0_1 a0_2 a0_3 a0_4 a0_5 a0_6 a0_7 a0_8 l0_9) = some (r1, r2) := by first | (rw [hy157]; with_reducible exact H) | (have H2_ := (Option.bind_some _ _).symm.trans H; rw [hy157]; with_reducible exact H2_) | (have H2_ := (Option.bind_some _ _).symm.trans H; with_reducible exact H2_) | with_reducible exact H | (rw [hy157]; exact H) | exact H
      have Ny157 := Aside0.mk hy157
      clear hy157
      have H' := Aside0.mk H
      clear H
      have hcz8_0 : wr.cell? ⟨gb156, 0, none⟩ = some (.int .i64 a0_0) := (blk_cell BK156.out 0).trans rfl
      have hcz8_1 : wr.cell? ⟨gb156, 1, none⟩ = some (.int .i64 a0_1) := (blk_cell BK156.out 1).trans rfl
      have hcz8_2 : wr.cell? ⟨gb156, 2, none⟩ = some (.bool a0_2) := (blk_cell BK156.out 2).trans rfl
      have hcz8_3 : wr.cell? ⟨gb156, 3, none⟩ = some (.string a0_3) := (blk_cell BK156.out 3).trans rfl
      have hcz8_4 : wr.cell? ⟨gb156, 4, none⟩ = some (.int .i64 a0_4) := (blk_cell BK156.out 4).trans rfl
      have hcz8_5 : wr.cell? ⟨gb156, 5, none⟩ = some (.int .i64 a0_5) := (blk_cell BK156.out 5).trans rfl
      have hcz8_6 : wr.cell? ⟨gb156, 6, none⟩ = some (.int .i64 a0_6) := (blk_cell BK156.out 6).trans rfl
      have hcz8_7 : wr.cell? ⟨gb156, 7, none⟩ = some (.string a0_7) := (blk_cell BK156.out 7).trans rfl
      have hcz8_8 : wr.cell? ⟨gb156, 8, none⟩ = some (.int .u64 a0_8) := (blk_cell BK156.out 8).trans rfl
      have hcz8_9 : wr.cell? ⟨gb156, 9, none⟩ = some (.slice A0_9 l0_9.length c0_9) := (blk_cell BK156.out 9).trans rfl
      have hfz8_0 := blk_frozen BK156.out 0
      have hfz8_1 := blk_frozen BK156.out 1
      have hfz8_2 := blk_frozen BK156.out 2
      have hfz8_3 := blk_frozen BK156.out 3
      have hfz8_4 := blk_frozen BK156.out 4
      have hfz8_5 := blk_frozen BK156.out 5
      have hfz8_6 := blk_frozen BK156.out 6
      have hfz8_7 := blk_frozen BK156.out 7
      have hfz8_8 := blk_frozen BK156.out 8
      have hfz8_9 := blk_frozen BK156.out 9
      go_wp2_with (first | ((with_reducible refine gate_builtin (b := .append) (xs := #[.tmp 10, .tmp 17]) rfl ?_); at_builtin; refine Kd.R_append (Kd.int .u8) (w0 := w) w.heap.size rfl (.tmp 10) (.tmp 17) 40 5 (.int .u8 0) 1 rfl Try.underlying40 info5 rfl (by decide) (by omega) u4 x4_1 ((ji6) % 256) [.int .u8 ((ji6) % 256)] (fun _ => True) (fun _ => False) rfl rfl ?aP (fun _ hk => hk.elim) ?aF ?aO ?aB ?aS ?aL ?_; (case aP => exact rfl); (case aB => exact (hS HB.out)); (case aF => exact (fun _ _ => trivial)); (case aO => exact (rS HO_4.out)); (case aS => exact (below_size (hS HB.out))); (case aL => have := LMc7.out; omega); intro v158 w9 ho hb hg hat; rw [← Ny157.out] at ho; replace BK156 := Aside0.mk (blk_grown (bS BK156.out) hg (Kd.R_ne HO_4.out BK156.out (by decide))); replace HB := Aside0.mk (hb); have HO159 := Aside0.mk (ho); clear HO_4; clear ho hb hg hat))
      go_roundg k1
      case measure => have := HK1.out; omega
      case rel => exact ⟨(y157), (wrap64 (x5_1 - 1)), (by first | rfl | (simp; done) | (simp [*]; done)), H', ⟨by have := HK1.out; omega⟩, ⟨rS HO159.out⟩, ⟨bS BK156.out⟩, ⟨by repeat (first | (with_reducible first | exact HB.out | apply below_alloc | apply pw_below_drewN | apply below_drew1 | refine below_set ?_ GE156.out) | exact HB.out)⟩⟩
     ·rw [if_neg c7] at H
      exact absurd H (by simp)
    ·rw [if_neg c5] at H
     exact absurd H (by simp)
   ·rw [if_neg c3] at H
    have c3b0 : decide (0 ≤ x5_1) = false := decide_eq_false c3
    clear c3
    simp only [Option.some.injEq, Prod.mk.injEq] at H
    obtain ⟨rfl, rfl⟩ := H
    have hcv10 := own_string (P := Try.prog) Try.underlying40 Try.underlying5 Try.underlying9 (Kd.own_of_R HO_4.out)
    go_wp2
    go_ret2
    exact ⟨by first | rfl | (simp [errW_none, errW_some] <;> rfl) | (simp [*, errW_none, errW_some] <;> rfl), by repeat (first | (with_reducible first | exact HB.out | apply below_alloc | apply pw_below_drewN | apply below_drew1 | refine below_set ?_ GE156.out) | exact HB.out)⟩

-- NOT PRINTED: function 52 (frame_readSum)

-- NOT PRINTED: function 38 (frame_kinds)

-- NOT PRINTED: function 32 (frame_read)

-- NOT PRINTED: function 24 (frame_write)

-- NOT PRINTED: function 40 (crc_Sum)

-- NOT PRINTED: function 25 (crc_Seal)

-- NOT PRINTED: function 11 (frame_Encode)

-- NOT PRINTED: function 13 (frame_May)

-- NOT PRINTED: function 31 (crc_Open)

-- NOT PRINTED: function 17 (frame_Decode)

/-! ### rollcallref02_Step: function 47 -/
def rollcallref02_Step.l0 : Nat → Int → Int → Option (Int)
 | 0, _, _ => none
 | k + 1, x5, x6 => if x6 < 8 then (if (Int.tmod x5 2) = 1 then (rollcallref02_Step.l0 k (Go.bits .xor .u32 ((Int.tdiv x5 2) % 4294967296) 3988292384) (wrap64 (x6 + 1))) else (rollcallref02_Step.l0 k ((Int.tdiv x5 2) % 4294967296) (wrap64 (x6 + 1)))) else (some x5)
def rollcallref02_Step.f (k : Nat) (a0 : Int) (a1 : Int) : Option (Int) := rollcallref02_Step.l0 k (Go.bits .xor .u32 a0 ((a1) % 4294967296)) 0
set_option maxHeartbeats 8000000 in
set_option maxRecDepth 100000 in
theorem rollcallref02_Step.calls (k : Nat) (a0 : Int) (a1 : Int) (r : Int) (w : World) (h : rollcallref02_Step.f k a0 a1 = some r) :
  Calls Try.prog 47 #[.int .u32 a0, .int .u8 a1] w fun e w' => e = .returned (.int .u32 r) ∧ Drawn0 w w' := by
 have H : (rollcallref02_Step.l0 k (Go.bits .xor .u32 a0 ((a1) % 4294967296)) 0) = some r := h
 clear h
 have H' := Aside0.mk H
 clear H
 go_enter Try.func47, Try.ntmps47
 go_wp2
 go_loopg [5, 6] k (fun kq v5 v6 w' => ∃ (x5_1 : Int) (x6_1 : Int), v5 = .int .u32 x5_1 ∧ v6 = .int .i64 x6_1 ∧ Aside0 (rollcallref02_Step.l0 kq x5_1 x6_1 = some r) ∧ Aside0 (kq ≤ k) ∧ Drawn0 w w')
 case atStart => exact ⟨(Go.bits .xor .u32 a0 ((a1) % 4294967296)), (0), (by first | rfl | (simp; done) | (simp [*]; done)), (by first | rfl | (simp; done) | (simp [*]; done)), H', ⟨Nat.le_refl _⟩, by repeat (first | exact Drawn0.refl _ | apply Drawn0.step)⟩
 case round =>
  clear H'
  try clear p2
  obtain ⟨x5_1, x6_1, rfl, rfl, HA, HK1, ⟨m1, rfl⟩⟩ := hrel
  cases gk with
  | zero => exact absurd HA.out (by simp [rollcallref02_Step.l0])
  | succ k1 =>
   have H := HA.out
   clear HA
   simp only [rollcallref02_Step.l0] at H
   by_cases c3 : x6_1 < 8
   ·rw [if_pos c3] at H
    have c3b0 : decide (x6_1 < 8) = true := decide_eq_true c3
    clear c3
    by_cases c4 : (Int.tmod x5_1 2) = 1
    ·rw [if_pos c4] at H
     have c4b0 : ((Int.tmod x5_1 2) == 1) = true := beq_iff_eq.mpr c4
     have c4b1 : ((Int.tmod x5_1 2) != 1) = false := bne_eq_false_iff_eq.mpr c4
     clear c4
     have H' := Aside0.mk H
     clear H
     go_wp2
     go_roundg k1
     case measure => have := HK1.out; omega
     case rel => exact ⟨(Go.bits .xor .u32 ((Int.tdiv x5_1 2) % 4294967296) 3988292384), (wrap64 (x6_1 + 1)), (by first | rfl | (simp; done) | (simp [*]; done)), (by first | rfl | (simp; done) | (simp [*]; done)), H', ⟨by have := HK1.out; omega⟩, by repeat (first | exact Drawn0.refl _ | apply Drawn0.step)⟩
    ·rw [if_neg c4] at H
     have c4b0 : ((Int.tmod x5_1 2) == 1) = false := beq_eq_false_iff_ne.mpr c4
     have c4b1 : ((Int.tmod x5_1 2) != 1) = true := bne_iff_ne.mpr c4
     have H' := Aside0.mk H
     clear H
     go_wp2
     go_roundg k1
     case measure => have := HK1.out; omega
     case rel => exact ⟨((Int.tdiv x5_1 2) % 4294967296), (wrap64 (x6_1 + 1)), (by first | rfl | (simp; done) | (simp [*]; done)), (by first | rfl | (simp; done) | (simp [*]; done)), H', ⟨by have := HK1.out; omega⟩, by repeat (first | exact Drawn0.refl _ | apply Drawn0.step)⟩
   ·rw [if_neg c3] at H
    have c3b0 : decide (x6_1 < 8) = false := decide_eq_false c3
    clear c3
    obtain rfl := Option.some.inj H
    go_wp2
    go_ret
    exact ⟨by first | rfl | (simp; done) | (simp [*]; done), by repeat (first | exact Drawn0.refl _ | apply Drawn0.step)⟩

/-! ### rollcallref02_Sum: function 34 -/
def rollcallref02_Sum.l0 : Nat → ByteArray → Int → Int → Option (Int)
 | 0, _, _, _ => none
 | k + 1, x0, x3, x4 => if x4 < (x0.size : Int) then (if 0 ≤ x4 then ((rollcallref02_Step.f k x3 (bt x0 x4)).bind fun t169 => (rollcallref02_Sum.l0 k x0 t169 (wrap64 (x4 + 1)))) else (none)) else (some (Go.bits .xor .u32 x3 4294967295))
def rollcallref02_Sum.f (k : Nat) (a0 : ByteArray) : Option (Int) := rollcallref02_Sum.l0 k a0 4294967295 0
set_option maxHeartbeats 8000000 in
set_option maxRecDepth 100000 in
theorem rollcallref02_Sum.calls (k : Nat) (a0 : ByteArray) (r : Int) (w : World) (h : rollcallref02_Sum.f k a0 = some r) :
  Calls Try.prog 34 #[.string a0] w fun e w' => e = .returned (.int .u32 r) ∧ Drawn0 w w' := by
 have H : (rollcallref02_Sum.l0 k a0 4294967295 0) = some r := h
 clear h
 have H' := Aside0.mk H
 clear H
 go_enter Try.func34, Try.ntmps34
 go_wp2
 go_loopg [3, 4] k (fun kq v3 v4 w' => ∃ (x3_1 : Int) (x4_1 : Int), v3 = .int .u32 x3_1 ∧ v4 = .int .i64 x4_1 ∧ Aside0 (rollcallref02_Sum.l0 kq a0 x3_1 x4_1 = some r) ∧ Aside0 (kq ≤ k) ∧ Drawn0 w w')
 case atStart => exact ⟨(4294967295), (0), (by first | rfl | (simp; done) | (simp [*]; done)), (by first | rfl | (simp; done) | (simp [*]; done)), H', ⟨Nat.le_refl _⟩, by repeat (first | exact Drawn0.refl _ | apply Drawn0.step)⟩
 case round =>
  clear H'
  obtain ⟨x3_1, x4_1, rfl, rfl, HA, HK1, ⟨m1, rfl⟩⟩ := hrel
  cases gk with
  | zero => exact absurd HA.out (by simp [rollcallref02_Sum.l0])
  | succ k1 =>
   have H := HA.out
   clear HA
   simp only [rollcallref02_Sum.l0] at H
   by_cases c2 : x4_1 < (a0.size : Int)
   ·rw [if_pos c2] at H
    have c2b0 : decide (x4_1 < (a0.size : Int)) = true := decide_eq_true c2
    clear c2
    by_cases c3 : 0 ≤ x4_1
    ·rw [if_pos c3] at H
     have c3b0 : decide (0 ≤ x4_1) = true := decide_eq_true c3
     clear c3
     replace H := Option.bind_eq_some_iff.mp H
     obtain ⟨t169, A50, H⟩ := H
     replace H : (rollcallref02_Sum.l0 k1 a0 t169 (wrap64 (x4_1 + 1))) = some r := H
     have A5 := Aside0.mk A50
     clear A50
     have H' := Aside0.mk H
     clear H
     have p4 : 0 ≤ (x4_1 : Int) := of_decide_eq_true (by first | (with_reducible assumption) | assumption)
     have q4 : x4_1 < (a0.size : Int) := of_decide_eq_true (by first | (with_reducible assumption) | assumption)
     have hx4 := bt_at a0 x4_1
     replace p4 := eq_true p4
     replace q4 := eq_true q4
     go_wp2_with (first | ((with_reducible refine gate_callee (f := 47) rfl ?_); refine goesL_ (some 15) rfl rfl Try.func47 (by kernel_rfl) rfl #[.int .u32 x3_1, .int .u8 (bt a0 x4_1)] rfl (by (try simp only [List.map_toArray, List.map_cons, List.map_nil]); first | done | rfl | (simp only [List.length_drop, List.length_take]; rfl)) ?_; (with_reducible refine (rollcallref02_Step.calls k1 x3_1 (bt a0 x4_1) t169 _ A5.out).mono ?_); rintro e w' ⟨rfl, ⟨nd, rfl⟩⟩; refine ⟨_, rfl, ?_⟩))
     go_roundg k1
     case measure => have := HK1.out; omega
     case rel => exact ⟨(t169), (wrap64 (x4_1 + 1)), (by first | rfl | (simp; done) | (simp [*]; done)), (by first | rfl | (simp; done) | (simp [*]; done)), H', ⟨by have := HK1.out; omega⟩, by repeat (first | exact Drawn0.refl _ | apply Drawn0.step)⟩
    ·rw [if_neg c3] at H
     exact absurd H (by simp)
   ·rw [if_neg c2] at H
    have c2b0 : decide (x4_1 < (a0.size : Int)) = false := decide_eq_false c2
    clear c2
    obtain rfl := Option.some.inj H
    go_wp2
    go_ret
    exact ⟨by first | rfl | (simp; done) | (simp [*]; done), by repeat (first | exact Drawn0.refl _ | apply Drawn0.step)⟩

/-! ### rollcallref02_Seal: function 19 -/
def rollcallref02_Seal.f (k : Nat) (a0 : ByteArray) : Option (ByteArray) := (rollcallref02_Sum.f k a0).bind fun t170 => ((some (([(t170) % 256, (t170 / 256) % 256, (t170 / 65536) % 256, (t170 / 16777216) % 256] : List Int) : List Int)).bind fun y171 => (if a0.size + (strOfNums y171).size ≤ 9223372036854775807 then (some (a0 ++ (strOfNums y171))) else (none)))
set_option maxHeartbeats 8000000 in
set_option maxRecDepth 100000 in
theorem rollcallref02_Seal.calls (k : Nat) (a0 : ByteArray) (r : ByteArray) (w : World) (h : rollcallref02_Seal.f k a0 = some r) :
  Calls Try.prog 19 #[.string a0] w fun e w' => e = .returned (.string r) ∧ Below w.heap.size w w' := by
 have HB := Aside0.mk (Below.refl w.heap.size w)
 have H : ((rollcallref02_Sum.f k a0).bind fun t170 => ((some (([(t170) % 256, (t170 / 256) % 256, (t170 / 65536) % 256, (t170 / 16777216) % 256] : List Int) : List Int)).bind fun y171 => (if a0.size + (strOfNums y171).size ≤ 9223372036854775807 then (some (a0 ++ (strOfNums y171))) else (none)))) = some r := h
 clear h
 replace H := Option.bind_eq_some_iff.mp H
 obtain ⟨t170, A20, H⟩ := H
 replace H : ((some (([(t170) % 256, (t170 / 256) % 256, (t170 / 65536) % 256, (t170 / 16777216) % 256] : List Int) : List Int)).bind fun y171 => (if a0.size + (strOfNums y171).size ≤ 9223372036854775807 then (some (a0 ++ (strOfNums y171))) else (none))) = some r := H
 have A2 := Aside0.mk A20
 clear A20
 obtain ⟨y171, hy171⟩ : ∃ y_ : List Int, y_ = (([(t170) % 256, (t170 / 256) % 256, (t170 / 65536) % 256, (t170 / 16777216) % 256] : List Int)) := ⟨_, rfl⟩
 replace H : (if a0.size + (strOfNums y171).size ≤ 9223372036854775807 then (some (a0 ++ (strOfNums y171))) else (none)) = some r := by first | (rw [hy171]; with_reducible exact H) | (have H2_ := (Option.bind_some _ _).symm.trans H; rw [hy171]; with_reducible exact H2_) | (have H2_ := (Option.bind_some _ _).symm.trans H; with_reducible exact H2_) | with_reducible exact H | (rw [hy171]; exact H) | exact H
 have Ny171 := Aside0.mk hy171
 clear hy171
 by_cases c3 : a0.size + (strOfNums y171).size ≤ 9223372036854775807
 ·rw [if_pos c3] at H
  have c3b0 := eq_true c3
  have c3b1 : decide (a0.size + (strOfNums y171).size ≤ 9223372036854775807) = true := decide_eq_true c3
  try have c3b2 : (9223372036854775807 < a0.size + (strOfNums y171).size) = False := eq_false (Nat.not_lt.2 c3)
  (try (have c3b3 := c3b0; simp only [ByteArray.size_append] at c3b3))
  (try (have c3b4 := c3b2; simp only [ByteArray.size_append] at c3b4))
  clear c3
  obtain rfl := Option.some.inj H
  go_enter Try.func19, Try.ntmps19
  go_wp2_with (first | ((with_reducible refine gate_callee (f := 34) rfl ?_); refine goesL_ (some 5) rfl rfl Try.func34 (by kernel_rfl) rfl #[.string a0] rfl (by (try simp only [List.map_toArray, List.map_cons, List.map_nil]); first | done | rfl | (simp only [List.length_drop, List.length_take]; rfl)) ?_; (with_reducible refine (rollcallref02_Sum.calls k a0 t170 _ A2.out).mono ?_); rintro e w' ⟨rfl, ⟨nd, rfl⟩⟩; refine ⟨_, rfl, ?_⟩) | ((with_reducible refine gate_dst (N := 18) rfl ?_); refine Kd.R_lit (Kd.int .u8) _ 5 ?hg (N := 18) ?hd (xs := ([(t170) % 256, (t170 / 256) % 256, (t170 / 65536) % 256, (t170 / 16777216) % 256] : List Int)) (inner := [.int .u8 ((t170) % 256), .int .u8 ((t170 / 256) % 256), .int .u8 ((t170 / 65536) % 256), .int .u8 ((t170 / 16777216) % 256)]) (ok := fun _ => True) (okp := fun _ => True) ?hr ?hp (fun _ hk => hk) trivial (Below.refl _ _) (Nat.le_refl _) (by simp) ?_; (case hd => rfl); (case hg => rfl); (case hr => first | (go_simp; done) | (go_simp; rfl)); (case hp => exact (Reps.one (show Kd.M (Kd.int .u8) _ _ _ ((t170) % 256) [.int .u8 ((t170) % 256)] from rfl) (Reps.one (show Kd.M (Kd.int .u8) _ _ _ ((t170 / 256) % 256) [.int .u8 ((t170 / 256) % 256)] from rfl) (Reps.one (show Kd.M (Kd.int .u8) _ _ _ ((t170 / 65536) % 256) [.int .u8 ((t170 / 65536) % 256)] from rfl) (Reps.one (show Kd.M (Kd.int .u8) _ _ _ ((t170 / 16777216) % 256) [.int .u8 ((t170 / 16777216) % 256)] from rfl) (Reps.none _ _)))))); intro v172 w4 ho5 hb hg_ hnew_; clear hg_ hnew_; (first | rw [← Ny171.out] at ho5 | (simp only [Int.reduceToNat] at ho5; rw [← Ny171.out] at ho5)); have HO173 := Aside0.mk (Kd.R_lower ho5 (below_size (hS HB.out))); replace HB := Aside0.mk (below_step (hS HB.out) hb); clear hb ho5; have hcv6 := own_string (P := Try.prog) Try.underlying40 Try.underlying5 Try.underlying9 (Kd.own_of_R HO173.out)))
  go_ret
  exact ⟨by first | rfl | (simp [errW_none, errW_some] <;> rfl) | (simp [*, errW_none, errW_some] <;> rfl), by repeat (first | (with_reducible first | exact HB.out | apply below_alloc | apply pw_below_drewN | apply below_drew1) | exact HB.out)⟩
 ·rw [if_neg c3] at H
  exact absurd H (by simp)

-- NOT PRINTED: function 10 (rollcalllaw06_live)

/-! ### rollcallref03_Is: function 27 -/
end Go.Proofs.Ytjccgdnnnlgeeaa.PA
end

section
-- Written by a program of this session (wip/tools/xprint.py), which drives the kit's print.
namespace Go.Proofs.Ytjccgdnnnlgeeaa.PA
open Go.RowKit Go.Proofs.YtjccgdnnnlgeeaaW.PrintWords Go.Proofs.YtjccgdnnnlgeeaaW.PrintLast Go.Proofs.YtjccgdnnnlgeeaaW.PrintMore
attribute [local go_sem] min2_int min_two   -- for this text's walks alone
set_option linter.unusedVariables false
set_option linter.unusedSimpArgs false

/-! ### rollcallref04_May: function 28 -/
/-! ### rollcallref03_Less: function 41 -/
end Go.Proofs.Ytjccgdnnnlgeeaa.PA
end

section
-- Written by a program of this session (wip/tools/xprint.py), which drives the kit's print.
namespace Go.Proofs.Ytjccgdnnnlgeeaa.PA
open Go.RowKit Go.Proofs.YtjccgdnnnlgeeaaW.PrintWords Go.Proofs.YtjccgdnnnlgeeaaW.PrintLast Go.Proofs.YtjccgdnnnlgeeaaW.PrintMore
attribute [local go_sem] min2_int min_two   -- for this text's walks alone
set_option linter.unusedVariables false
set_option linter.unusedSimpArgs false

/-! ### rollcallref01_Put: function 35 -/
/-! ### rollcallref01_Text: function 48 -/
/-! ### rollcallref03_Put: function 36 -/
/-! ### rollcallref04_Put: function 37 -/
def rollcallref04_Put.B3 : List Nat := [0, 1, 3, 0, 8, 24, 56, 127, 255, 0, 512, 1536, 3584, 8191, 0, 16384, 56832, 131071, 262143, 524287]
end Go.Proofs.Ytjccgdnnnlgeeaa.PA
end

section
/- Numbers of seven bits a byte, in plain numbers: what the walk's function getGo tells of bytes that were laid by 'digs', and the other way round. -/
namespace Go.Proofs.Ytjccgdnnnlgeeaa.XVar
open Go.RowKit Go.Proofs.YtjccgdnnnlgeeaaW.PrintWords Go.Proofs.YtjccgdnnnlgeeaaW.PrintLast Go.Proofs.YtjccgdnnnlgeeaaW.PrintMore
open Go.Proofs.Ytjccgdnnnlgeeaa.XGet
set_option linter.unusedVariables false
set_option linter.unusedSimpArgs false

/-- 128 to the power of j. -/
def pw : Nat → Int
 | 0 => 1
 | j + 1 => 128 * pw j
theorem pw_pos : ∀ j, 0 < pw j
 | 0 => by simp [pw]
 | j + 1 => by have := pw_pos j; simp only [pw]; omega
theorem wrap_u64 (n : Int) (h0 : 0 ≤ n) (h1 : n < 18446744073709551616) : IntKind.u64.wrap n = n := by
 simp [IntKind.wrap, IntKind.bits, IntKind.signed]
 omega
theorem wrap_id (n : Int) (h0 : -9223372036854775808 ≤ n) (h1 : n ≤ 9223372036854775807) : wrap64 n = n := by unfold wrap64; omega
theorem andNot128 (b : Int) (h0 : 0 ≤ b) (h1 : b ≤ 255) : bits .andNot .u8 b 128 = b % 128 := by
 have h : ∀ n : Fin 256, bits .andNot .u8 ((n.1 : Nat) : Int) 128 = ((n.1 : Nat) : Int) % 128 := by decide +kernel
 have h2 := h ⟨b.toNat, by omega⟩
 rwa [Int.toNat_of_nonneg h0] at h2
theorem or128 (b : Int) : bits .or .u8 (b % 256) 128 = 128 + b % 128 := by
 have h : ∀ n : Fin 256, bits .or .u8 ((n.1 : Nat) : Int) 128 = 128 + ((n.1 : Nat) : Int) % 128 := by decide +kernel
 have h2 := h ⟨(b % 256).toNat, by omega⟩
 rw [Int.toNat_of_nonneg (by omega)] at h2
 omega
theorem ten (j : Nat) (hj : j ≤ 9) : j = 0 ∨ j = 1 ∨ j = 2 ∨ j = 3 ∨ j = 4 ∨ j = 5 ∨ j = 6 ∨ j = 7 ∨ j = 8 ∨ j = 9 := by omega
theorem or_low (i : Nat) (x y : Int) (m : Int) (hm : m = (2 ^ i : Nat)) (hx : 0 ≤ x) (hx1 : x < m) (hx2 : x < 18446744073709551616) (hy : 0 ≤ y) (hy1 : y * m < 18446744073709551616) : bits .or .u64 x (y * m) = x + y * m := by
 subst hm
 obtain ⟨a, rfl⟩ := Int.eq_ofNat_of_zero_le hx
 obtain ⟨b, rfl⟩ := Int.eq_ofNat_of_zero_le hy
 have e : (b : Int) * ((2 ^ i : Nat) : Int) = ((b * 2 ^ i : Nat) : Int) := by simp
 rw [e] at hy1 ⊢
 have h1 : a < 2 ^ i := by exact_mod_cast hx1
 rw [u64_or_nat a (b * 2 ^ i) (by omega) (by omega), Nat.or_comm, nat_join i _ _ (Nat.mul_mod_left _ _) h1]
 omega
theorem stepN_eq (j : Nat) (hj : j ≤ 9) (a b : Int) (ha : 0 ≤ a) (ha' : a < pw j) (hb : 0 ≤ b) (hb' : b ≤ 255) (h9 : j = 9 → b % 128 ≤ 1) : stepN a b (j : Int) = a + b % 128 * pw j := by
 unfold stepN
 rw [andNot128 b hb hb', wrap_u64 (b % 128) (by omega) (by omega)]
 have key : ∀ (i : Nat) (m : Int), (7 * (j : Int)).toNat = i → (2 : Int) ^ i = m → pw j = m → m = (2 ^ i : Nat) → a < m → b % 128 * m < 18446744073709551616 → bits .or .u64 a (IntKind.u64.wrap (b % 128 * 2 ^ (7 * (j : Int)).toNat)) = a + b % 128 * pw j := by
  intro i m e1 e2 e3 e4 h1 h2
  have hm : 0 < m := by have := pw_pos j; omega
  rw [e1, e2, e3, wrap_u64 _ (Int.mul_nonneg (by omega) (by omega)) h2]
  refine or_low i a (b % 128) m e4 ha h1 ?_ (by omega) h2
  rcases ten j hj with rfl | rfl | rfl | rfl | rfl | rfl | rfl | rfl | rfl | rfl <;> (simp only [pw] at ha'; omega)
 rcases ten j hj with rfl | rfl | rfl | rfl | rfl | rfl | rfl | rfl | rfl | rfl
 ·exact key 0 1 (by decide) (by decide) (by decide) (by decide) (by simp only [pw] at ha'; omega) (by omega)
 ·exact key 7 128 (by decide) (by decide) (by decide) (by decide) (by simp only [pw] at ha'; omega) (by omega)
 ·exact key 14 16384 (by decide) (by decide) (by decide) (by decide) (by simp only [pw] at ha'; omega) (by omega)
 ·exact key 21 2097152 (by decide) (by decide) (by decide) (by decide) (by simp only [pw] at ha'; omega) (by omega)
 ·exact key 28 268435456 (by decide) (by decide) (by decide) (by decide) (by simp only [pw] at ha'; omega) (by omega)
 ·exact key 35 34359738368 (by decide) (by decide) (by decide) (by decide) (by simp only [pw] at ha'; omega) (by omega)
 ·exact key 42 4398046511104 (by decide) (by decide) (by decide) (by decide) (by simp only [pw] at ha'; omega) (by omega)
 ·exact key 49 562949953421312 (by decide) (by decide) (by decide) (by decide) (by simp only [pw] at ha'; omega) (by omega)
 ·exact key 56 72057594037927936 (by decide) (by decide) (by decide) (by decide) (by simp only [pw] at ha'; omega) (by omega)
 ·exact key 63 9223372036854775808 (by decide) (by decide) (by decide) (by decide) (by simp only [pw] at ha'; omega) (by have := h9 rfl; omega)
/-- A number's bytes. -/
def digs : Nat → Int → List Int
 | 0, _ => []
 | d + 1, n => if n ≥ 128 then (128 + n % 128) :: digs d (n / 128) else [n]
theorem digs_len : ∀ d n, (digs d n).length ≤ d
 | 0, _ => by simp [digs]
 | d + 1, n => by
  rw [digs]
  split
  ·have := digs_len d (n / 128)
   simp only [List.length_cons]
   omega
  ·simp
theorem digs_pos (d : Nat) (n : Int) : 1 ≤ (digs (d + 1) n).length := by
 rw [digs]
 split <;> simp
theorem digs_range : ∀ d n, 0 ≤ n → ∀ x ∈ digs d n, 0 ≤ x ∧ x ≤ 255
 | 0, _, _ => by simp [digs]
 | d + 1, n, h0 => by
  intro x hx
  rw [digs] at hx
  split at hx
  ·rcases List.mem_cons.1 hx with rfl | hx
   ·omega
   ·exact digs_range d (n / 128) (by omega) x hx
  ·rw [List.mem_singleton.1 hx]
   omega

/-- Bytes that stand at a place. -/
def Stands (s : ByteArray) (p : Int) (l : List Int) : Prop := p + l.length ≤ s.size ∧ ∀ (j : Nat) (h : j < l.length), bt s (p + j) = l[j]
theorem Stands.tail {s : ByteArray} {p : Int} {x : Int} {l : List Int} (h : Stands s p (x :: l)) : Stands s (p + 1) l := by
 refine ⟨by have := h.1; simp only [List.length_cons] at this; omega, fun j hj => ?_⟩
 have := h.2 (j + 1) (by simp only [List.length_cons]; omega)
 simp only [List.getElem_cons_succ] at this
 rw [← this]
 congr 1
 omega
theorem Stands.head {s : ByteArray} {p : Int} {x : Int} {l : List Int} (h : Stands s p (x :: l)) : bt s p = x := by
 have := h.2 0 (by simp)
 simpa using this
theorem Stands.lt {s : ByteArray} {p : Int} {x : Int} {l : List Int} (h : Stands s p (x :: l)) : p < s.size := by
 have := h.1
 simp only [List.length_cons] at this
 omega
theorem Stands.cons {s : ByteArray} {p : Int} {x : Int} {l : List Int} (h0 : bt s p = x) (h1 : p < s.size) (h : Stands s (p + 1) l) : Stands s p (x :: l) := by
 refine ⟨by have := h.1; simp only [List.length_cons]; omega, fun j hj => ?_⟩
 cases j with
 | zero => simpa using h0
 | succ j =>
  have := h.2 j (by simp only [List.length_cons] at hj; omega)
  simp only [List.getElem_cons_succ]
  rw [← this]
  congr 1
  omega

/-- What was put is got. -/
theorem get_of_put (s : ByteArray) (p : Int) : ∀ (d j : Nat) (a n : Int), j + d = 10 → j ≤ 9 → 0 ≤ a → a < pw j → 0 ≤ n → a + n * pw j < 18446744073709551616 → (n = 0 → j = 0) → Stands s (p + j) (digs d n) →
  getGo s p d (j : Int) a = (a + n * pw j, p + j + (digs d n).length, 0)
 | 0, j, a, n, hd, hj, _, _, _, _, _, _ => by omega
 | d + 1, j, a, n, hd, hj, ha0, ha1, hn0, hn1, hz, hs => by
  rw [getGo]
  rw [digs] at hs ⊢
  by_cases c : n ≥ 128
  ·rw [if_pos c] at hs ⊢
   have hb := hs.head
   have hl := hs.lt
   have hp : ∀ q, pw 9 = q → q = 9223372036854775808 := by intro q hq; rw [← hq]; decide
   have h9 : j ≠ 9 := by
    rintro rfl
    rw [hp _ rfl] at hn1
    omega
   rw [if_neg (by omega), hb, if_neg (by omega), if_pos (by omega)]
   rw [stepN_eq j hj a (128 + n % 128) ha0 ha1 (by omega) (by omega) (fun h => absurd h h9)]
   have e : (128 + n % 128) % 128 = n % 128 := by omega
   rw [e]
   have hpw := pw_pos j
   have e2 : a + n % 128 * pw j + n / 128 * pw (j + 1) = a + n * pw j := by
    simp only [pw]
    rcases ten j hj with rfl | rfl | rfl | rfl | rfl | rfl | rfl | rfl | rfl | rfl <;> (simp only [pw]; omega)
   have ih := get_of_put s p d (j + 1) (a + n % 128 * pw j) (n / 128) (by omega) (by omega) (by rcases ten j hj with rfl | rfl | rfl | rfl | rfl | rfl | rfl | rfl | rfl | rfl <;> (simp only [pw]; omega))
    (by rcases ten j hj with rfl | rfl | rfl | rfl | rfl | rfl | rfl | rfl | rfl | rfl <;> (simp only [pw] at ha1 ⊢; omega)) (by omega) (by rw [e2]; exact hn1) (fun h => by omega)
    (by have := hs.tail; rw [show p + ((j + 1 : Nat) : Int) = p + j + 1 by omega]; exact this)
   rw [show ((j : Int) + 1) = ((j + 1 : Nat) : Int) by omega, ih, e2]
   simp only [List.length_cons, Prod.mk.injEq, true_and, and_true]
   omega
  ·rw [if_neg c] at hs ⊢
   have hb := hs.head
   have hl := hs.lt
   have h1 : j = 9 → n % 128 ≤ 1 := by
    rintro rfl
    have : pw 9 = 9223372036854775808 := by decide
    rw [this] at hn1
    omega
   rw [if_neg (by omega), hb, if_neg (by intro h; have := h1 (by omega); omega), if_neg (by omega), if_neg (by intro h; have := hz h.1; omega)]
   rw [stepN_eq j hj a n ha0 ha1 (by omega) (by omega) h1, show n % 128 = n by omega]
   simp only [List.length_singleton, Prod.mk.injEq, true_and, and_true]
   omega
/-- What is got is what was put. -/
theorem put_of_get (s : ByteArray) (p : Int) : ∀ (d j : Nat) (a n q : Int), j + d = 10 → 0 ≤ a → a < pw j → p + j ≤ s.size → 0 ≤ p → getGo s p d (j : Int) a = (n, q, 0) →
  ∃ m : Int, 0 ≤ m ∧ n = a + m * pw j ∧ n < 18446744073709551616 ∧ (m = 0 → j = 0) ∧ q = p + j + (digs d m).length ∧ Stands s (p + j) (digs d m)
 | 0, j, a, n, q, hd, ha0, ha1, hp, hp0, h => by simp [getGo] at h
 | d + 1, j, a, n, q, hd, ha0, ha1, hp, hp0, h => by
  have hj : j ≤ 9 := by omega
  rw [getGo] at h
  have hb := bt_range s (p + j)
  by_cases c1 : p + (j : Int) = s.size
  ·rw [if_pos c1] at h
   simp at h
  rw [if_neg c1] at h
  by_cases c2 : (j : Int) = 9 ∧ bt s (p + j) > 1
  ·rw [if_pos c2] at h
   simp at h
  rw [if_neg c2] at h
  have h9 : j = 9 → bt s (p + j) % 128 ≤ 1 := fun e => by omega
  rw [stepN_eq j hj a _ ha0 ha1 hb.1 hb.2 h9] at h
  by_cases c3 : bt s (p + j) ≥ 128
  ·rw [if_pos c3, show ((j : Int) + 1) = ((j + 1 : Nat) : Int) by omega] at h
   have hj8 : j ≤ 8 := by omega
   obtain ⟨m, hm0, hn, hlt, hz, hq, hs⟩ := put_of_get s p d (j + 1) _ n q (by omega) (by rcases ten j hj with rfl | rfl | rfl | rfl | rfl | rfl | rfl | rfl | rfl | rfl <;> (simp only [pw]; omega))
    (by rcases ten j hj with rfl | rfl | rfl | rfl | rfl | rfl | rfl | rfl | rfl | rfl <;> (simp only [pw] at ha1 ⊢; omega)) (by omega) hp0 h
   have hm1 : m ≠ 0 := fun e => by have := hz e; omega
   refine ⟨bt s (p + j) % 128 + 128 * m, by omega, ?_, hlt, fun e => by omega, ?_, ?_⟩
   ·rw [hn]
    rcases ten j hj with rfl | rfl | rfl | rfl | rfl | rfl | rfl | rfl | rfl | rfl <;> (simp only [pw]; omega)
   ·rw [digs, if_pos (by omega), show (bt s (p + j) % 128 + 128 * m) / 128 = m by omega, hq]
    simp only [List.length_cons]
    omega
   ·rw [digs, if_pos (by omega), show (bt s (p + j) % 128 + 128 * m) / 128 = m by omega]
    refine Stands.cons (by omega) (by omega) ?_
    rw [show p + (j : Int) + 1 = p + ((j + 1 : Nat) : Int) by omega]
    exact hs
  ·rw [if_neg c3] at h
   by_cases c4 : bt s (p + j) = 0 ∧ (j : Int) + 1 > 1
   ·rw [if_pos c4] at h
    simp at h
   rw [if_neg c4] at h
   obtain ⟨h1, h2, _⟩ : a + bt s (p + j) % 128 * pw j = n ∧ p + ((j : Int) + 1) = q ∧ True := by simpa using h
   refine ⟨bt s (p + j), hb.1, ?_, ?_, fun e => by omega, ?_, ?_⟩
   ·rw [← h1, show bt s (p + j) % 128 = bt s (p + j) by omega]
   ·rw [← h1]
    rcases ten j hj with rfl | rfl | rfl | rfl | rfl | rfl | rfl | rfl | rfl | rfl <;> (simp only [pw] at ha1 ⊢; omega)
   ·rw [digs, if_neg (by omega)]
    simp only [List.length_singleton]
    omega
   ·rw [digs, if_neg (by omega)]
    refine Stands.cons rfl (by omega) ⟨by simp only [List.length_nil]; omega, fun j hj => by simp at hj⟩
/-- The answer's shape: with an error, nothing; else a place behind the one asked for, in the text. -/
theorem get_shape (s : ByteArray) (p : Int) : ∀ (d j : Nat) (a : Int), j + d = 10 → p + j ≤ s.size → (∃ e, getGo s p d (j : Int) a = (0, 0, e) ∧ (e = 2 ∨ e = 3)) ∨ ∃ n q, getGo s p d (j : Int) a = (n, q, 0) ∧ p + j < q ∧ q ≤ s.size
 | 0, j, a, _, _ => .inl ⟨3, rfl, by omega⟩
 | d + 1, j, a, hd, hp => by
  rw [getGo]
  by_cases c1 : p + (j : Int) = s.size
  ·rw [if_pos c1]
   exact .inl ⟨2, rfl, by omega⟩
  rw [if_neg c1]
  by_cases c2 : (j : Int) = 9 ∧ bt s (p + j) > 1
  ·rw [if_pos c2]
   exact .inl ⟨3, rfl, by omega⟩
  rw [if_neg c2]
  by_cases c3 : bt s (p + j) ≥ 128
  ·rw [if_pos c3, show ((j : Int) + 1) = ((j + 1 : Nat) : Int) by omega]
   rcases get_shape s p d (j + 1) (stepN a (bt s (p + j)) j) (by omega) (by omega) with h | ⟨n, q, h, h1, h2⟩
   ·exact .inl h
   ·exact .inr ⟨n, q, h, by omega, h2⟩
  ·rw [if_neg c3]
   by_cases c4 : bt s (p + j) = 0 ∧ (j : Int) + 1 > 1
   ·rw [if_pos c4]
    exact .inl ⟨3, rfl, by omega⟩
   ·rw [if_neg c4]
    exact .inr ⟨_, _, rfl, by omega, by omega⟩
end Go.Proofs.Ytjccgdnnnlgeeaa.XVar
end

section
/- Bytes at places: of texts that are joined, cut, or made of numbers. No program is in sight. -/
namespace Go.Proofs.Ytjccgdnnnlgeeaa.XBytes
open Go.RowKit Go.Proofs.YtjccgdnnnlgeeaaW.PrintWords Go.Proofs.YtjccgdnnnlgeeaaW.PrintLast Go.Proofs.YtjccgdnnnlgeeaaW.PrintMore Go.Proofs.Ytjccgdnnnlgeeaa.XVar
set_option linter.unusedVariables false
set_option linter.unusedSimpArgs false

theorem wf_u64 {n : Int} (h : (Lit.int .u64 n).wf = true) : 0 ≤ n ∧ n < 18446744073709551616 := by
 simp [Lit.wf, IntKind.min, IntKind.max, IntKind.bits, IntKind.signed] at h
 omega
theorem wf_u8 {n : Int} (h : (Lit.int .u8 n).wf = true) : 0 ≤ n ∧ n ≤ 255 := by
 simp [Lit.wf, IntKind.min, IntKind.max, IntKind.bits, IntKind.signed] at h
 omega
theorem size_len (s : ByteArray) : s.size = s.data.toList.length := by rw [Array.length_toList]; rfl
theorem ba_ext {a b : ByteArray} (h : a.data.toList = b.data.toList) : a = b := by
 apply ByteArray.ext
 exact Array.toList_inj.1 h
theorem ba_ext' {a b : ByteArray} (h : a.toList = b.toList) : a = b := ba_ext (by rw [← Lib.toList_data, ← Lib.toList_data]; exact h)
theorem toList_inj {a b : ByteArray} : a.toList = b.toList ↔ a = b := ⟨ba_ext', fun h => by rw [h]⟩
theorem app_data (a b : ByteArray) : (a ++ b).data.toList = a.data.toList ++ b.data.toList := by simp [ByteArray.data_append]
theorem app_size (a b : ByteArray) : (a ++ b).size = a.size + b.size := ByteArray.size_append ..
theorem app_assoc (a b c : ByteArray) : (a ++ b) ++ c = a ++ (b ++ c) := ba_ext (by simp only [app_data, List.append_assoc])
theorem ext_data (s : ByteArray) (a b : Nat) : (s.extract a b).data.toList = (s.data.toList.drop a).take (b - a) := Lib.extract_data s a b
theorem ext_size (s : ByteArray) (a b : Nat) : (s.extract a b).size = min b s.size - a := ByteArray.size_extract
theorem bt_eq (s : ByteArray) (i : Int) : bt s i = ((s.data.toList.getD i.toNat 0).toNat : Int) := by
 unfold bt
 rw [List.getD_eq_getElem?_getD]
 split
 ·rename_i h
  rw [List.getElem?_eq_getElem (by rw [← size_len]; exact h)]
  rfl
 ·rename_i h
  rw [List.getElem?_eq_none (by rw [← size_len]; omega)]
  rfl
theorem bt_app_left (a b : ByteArray) (i : Int) (h0 : 0 ≤ i) (h : i < a.size) : bt (a ++ b) i = bt a i := by
 rw [bt_eq, bt_eq, app_data, List.getD_eq_getElem?_getD, List.getD_eq_getElem?_getD, List.getElem?_append_left (by rw [← size_len]; omega)]
theorem bt_app_right (a b : ByteArray) (i : Int) (h : 0 ≤ i) : bt (a ++ b) (a.size + i) = bt b i := by
 rw [bt_eq, bt_eq, app_data, List.getD_eq_getElem?_getD, List.getD_eq_getElem?_getD, List.getElem?_append_right (by rw [← size_len]; omega), ← size_len, show (a.size + i).toNat - a.size = i.toNat by omega]
theorem bt_ext (s : ByteArray) (a b : Nat) (i : Int) (h : 0 ≤ i) (h1 : a + i < b) : bt (s.extract a b) i = bt s (a + i) := by
 rw [bt_eq, bt_eq, ext_data, List.getD_eq_getElem?_getD, List.getD_eq_getElem?_getD, List.getElem?_take, if_pos (by omega), List.getElem?_drop, show (a + i : Int).toNat = a + i.toNat by omega]
theorem bt_nums (l : List Int) (hl : ∀ x ∈ l, 0 ≤ x ∧ x ≤ 255) (j : Nat) (h : j < l.length) : bt (strOfNums l) j = l[j] := by
 rw [bt_eq, strOfNums_data, List.getD_eq_getElem?_getD, List.getElem?_map, Int.toNat_natCast, List.getElem?_eq_getElem h]
 have := hl l[j] (List.getElem_mem h)
 simp only [Option.map_some, Option.getD_some]
 rw [UInt8.toNat_ofNat_of_lt' (by show l[j].toNat < 256; omega)]
 omega
theorem stands_nums (l : List Int) (hl : ∀ x ∈ l, 0 ≤ x ∧ x ≤ 255) : Stands (strOfNums l) 0 l :=
 ⟨by rw [strOfNums_size]; omega, fun j h => by rw [Int.zero_add]; exact bt_nums l hl j h⟩
theorem stands_app {b : ByteArray} {p : Int} {l : List Int} (h : Stands b p l) (hp : 0 ≤ p) (a : ByteArray) : Stands (a ++ b) (a.size + p) l := by
 refine ⟨by have := h.1; rw [app_size]; omega, fun j hj => ?_⟩
 rw [Int.add_assoc, bt_app_right a b (p + j) (by omega)]
 exact h.2 j hj
theorem stands_more {a : ByteArray} {p : Int} {l : List Int} (h : Stands a p l) (hp : 0 ≤ p) (b : ByteArray) : Stands (a ++ b) p l := by
 refine ⟨by have := h.1; rw [app_size]; omega, fun j hj => ?_⟩
 have h1 := h.1
 rw [bt_app_left a b (p + j) (by omega) (by omega)]
 exact h.2 j hj
theorem ofNat_eq_of {x : Int} {u : UInt8} (h : (u.toNat : Int) = x) : UInt8.ofNat x.toNat = u := by
 rw [← h, Int.toNat_natCast]
 exact UInt8.ofNat_toNat
theorem cut_of_stands {s : ByteArray} {p : Int} {l : List Int} (hp : 0 ≤ p) (h : Stands s p l) : s.extract p.toNat (p + l.length).toNat = strOfNums l := by
 apply ba_ext
 rw [ext_data, strOfNums_data]
 have h1 := h.1
 have h2 := size_len s
 apply List.ext_getElem
 ·rw [List.length_take, List.length_drop, List.length_map, ← size_len]
  omega
 ·intro j hj hj'
  rw [List.length_map] at hj'
  rw [List.getElem_take, List.getElem_drop, List.getElem_map]
  have h3 := h.2 j hj'
  rw [bt_eq, List.getD_eq_getElem?_getD, List.getElem?_eq_getElem (by omega)] at h3
  symm
  apply ofNat_eq_of
  rw [← h3]
  simp only [Option.getD_some, show (p + j : Int).toNat = p.toNat + j by omega]
theorem digs_mono : ∀ (d : Nat) (a b : Int), 0 ≤ a → a ≤ b → b < pw d → (digs d a).length ≤ (digs d b).length
 | 0, a, b, _, _, _ => by simp [digs]
 | d + 1, a, b, h0, h, hb => by
  rw [digs, digs]
  by_cases ca : a ≥ 128 <;> by_cases cb : b ≥ 128
  ·rw [if_pos ca, if_pos cb]
   have := digs_mono d (a / 128) (b / 128) (by omega) (by omega) (by simp only [pw] at hb; omega)
   simp only [List.length_cons]
   omega
  ·omega
  ·rw [if_neg ca, if_pos cb]
   simp
  ·rw [if_neg ca, if_neg cb]
   simp
end Go.Proofs.Ytjccgdnnnlgeeaa.XBytes
end

section
/- A region that draws its order, whose operations read what was there before it, and whose calls only make memory: one walk, in the order of the text, serves every order. -/
namespace Go.Proofs.Ytjccgdnnnlgeeaa.XQuiet
open Go.RowKit Go.Proofs.YtjccgdnnnlgeeaaW.PrintWords Go.Proofs.YtjccgdnnnlgeeaaW.PrintLast Go.Proofs.YtjccgdnnnlgeeaaW.PrintMore
/-- A later world in which all that was there is as it was. -/
structure Kin (w : World) where
 at' : World
 bel : Below w.heap.size w at'
instance (w : World) : Nonempty (Kin w) := ⟨⟨w, Below.refl _ _⟩⟩
theorem region_kin {P : Program} {id : Nat} {Q : Exit → Act → World → Prop} {a : Act} {w : World} {l : List Oper} (hm : P.follows .mixedOrders = true) (hB : Region.lexB .any l.toArray = true)
  (h : wpQuiet P l.toArray (fun w' => ∃ u : Kin w, w' = u.at') (fun a' => ∀ w', (∃ u : Kin w, w' = u.at') → Q .normal a' w') l a) : (Code.region id l.toArray true).wp P Q a w :=
 wp_region_quiet (C := fun w' => ∃ u : Kin w, w' = u.at') hm hB ⟨⟨w.drew, below_drew (Below.refl _ _)⟩, rfl⟩ (by simpa using h)
theorem Kin.cell {w : World} {a : Addr} {v : Value} (h : w.cell? a = some v) (u : Kin w) : u.at'.cell? a = some v := pw_cell_below u.bel h
theorem Kin.call {P : Program} {f : FuncId} {args : Array Value} {w : World} {u : Kin w} {v : Value} (h : Calls P f args u.at' fun e w' => e = .returned v ∧ Below u.at'.heap.size u.at' w') :
  Calls P f args u.at' fun e w'' => e = .returned v ∧ ∃ u' : Kin w, w'' = u'.at' :=
 h.mono fun _ w' ⟨he, hb⟩ => ⟨he, ⟨w', below_step u.bel hb⟩, rfl⟩
end Go.Proofs.Ytjccgdnnnlgeeaa.XQuiet
end

section
/- Rows of one's own: their shape in memory; the built-in clear behind their end. No program is in sight. -/
namespace Go.Proofs.Ytjccgdnnnlgeeaa.XRows
open Go.RowKit Go.Proofs.YtjccgdnnnlgeeaaW.PrintWords Go.Proofs.YtjccgdnnnlgeeaaW.PrintLast Go.Proofs.YtjccgdnnnlgeeaaW.PrintMore
set_option linter.unusedVariables false
set_option linter.unusedSimpArgs false
end Go.Proofs.Ytjccgdnnnlgeeaa.XRows
end

section
/- What is known of memory that nobody writes any more, kept as one fact; slices that are only read. -/
namespace Go.Proofs.Ytjccgdnnnlgeeaa.XMem
open Go.RowKit Go.Proofs.YtjccgdnnnlgeeaaW.PrintWords Go.Proofs.YtjccgdnnnlgeeaaW.PrintLast Go.Proofs.YtjccgdnnnlgeeaaW.PrintMore
/-- Blocks, and what they hold. -/
def Mem (w : World) (L : List (Nat × Obj)) : Prop := ∀ x ∈ L, w.heap[x.1]? = some x.2
theorem Mem.below {w w' : World} {L : List (Nat × Obj)} (h : Mem w L) (hb : Below w.heap.size w w') : Mem w' L := fun x hx => blk_below (h x hx) hb
theorem al_below {w w1 : World} {o : Obj} (h : w.alloc o = w1) : Below w.heap.size w w1 := h ▸ below_alloc (Below.refl _ _) o
theorem al_new {w w1 : World} {o : Obj} (h : w.alloc o = w1) : w1.heap[w.heap.size]? = some o := h ▸ heap_alloc_new w o
theorem new_drew (w : World) (o : Obj) : (w.alloc o).drew.heap[w.heap.size]? = some o := heap_alloc_new w o
/-- A slice that is only read. -/
def Im {α : Type} (d : Kd α) (w : World) (v : Value) (l : List α) : Prop := Kd.V d 0 w 0 (fun _ => True) v l
theorem Im.below {α : Type} {d : Kd α} {w w' : World} {v : Value} {l : List α} (h : Im d w v l) (hb : Below w.heap.size w w') : Im d w' v l := Kd.V_below h hb
theorem Im.slice {α : Type} {d : Kd α} {w : World} {v : Value} {l : List α} (h : Im d w v l) : ∃ A c, v = .slice A l.length c ∧ l.length ≤ c ∧ d.C w A l.length l := by
 obtain ⟨A, c, rfl, hc, hF⟩ := h
 exact ⟨A, c, rfl, hc, Kd.F_now hF⟩
theorem Im.of_C {α : Type} {d : Kd α} (hd : Kd.Heap d) {w : World} {A : Option Addr} {c : Nat} {l : List α} (h : d.C w A l.length l) (hc : l.length ≤ c) : Im d w (.slice A l.length c) l :=
 ⟨A, c, rfl, hc, Kd.F_mono (Kd.C_F hd h) (fun _ _ => trivial)⟩
end Go.Proofs.Ytjccgdnnnlgeeaa.XMem
end

section
/- All that a walk knows of its world, as one fact: the boxes that it has made (where, and what they hold), the slice that it alone may write, and the slices that it only reads. -/
namespace Go.Proofs.Ytjccgdnnnlgeeaa.XSt
set_option linter.unusedVariables false
set_option linter.unusedSimpArgs false
open Go.RowKit Go.Proofs.YtjccgdnnnlgeeaaW.PrintWords Go.Proofs.YtjccgdnnnlgeeaaW.PrintLast Go.Proofs.YtjccgdnnnlgeeaaW.PrintMore Go.Proofs.Ytjccgdnnnlgeeaa.XMem
/-- Something that is known of a world, and of no block that is not allowed. -/
structure Ft where
 P : World → (Nat → Prop) → Prop
 step : ∀ {w w1 : World} {ok : Nat → Prop}, P w ok → (∀ k, ok k → k < w.heap.size → w1.heap[k]? = w.heap[k]?) → P w1 ok
 mono : ∀ {w : World} {ok ok' : Nat → Prop}, P w ok → (∀ k, ok k → ok' k) → P w ok'
 bound : ∀ {w : World} {ok : Nat → Prop}, P w ok → P w (fun k => ok k ∧ k < w.heap.size)
/-- A slice that is only read. -/
def V {α : Type} (d : Kd α) (v : Value) (l : List α) : Ft := ⟨fun w ok => Kd.V d 0 w 0 ok v l, fun h hm => Kd.V_step h hm, fun h hm => Kd.V_mono h hm, fun h => Kd.V_bound h⟩
/-- A slice that is one's own. -/
def N {α : Type} (d : Kd α) (e base : Nat) (v : Value) (l : List α) : Ft := ⟨fun w ok => Kd.N d e w base ok v l, fun h hm => Kd.N_step h hm, fun h hm => Kd.N_mono h hm, fun h => Kd.N_bound h⟩
/-- Nothing. -/
def tt : Ft := ⟨fun _ _ => True, fun _ _ => trivial, fun _ _ => trivial, fun _ => trivial⟩
abbrev nil : Value := .slice none 0 0
/-- No box. -/
def Out (L : List (Nat × Obj)) (k : Nat) : Prop := ∀ x ∈ L, k ≠ x.1
/-- What the caller allows, or new; and no box. -/
def Fp (ok : Nat → Prop) (w0 : World) (L : List (Nat × Obj)) (k : Nat) : Prop := (ok k ∨ w0.heap.size ≤ k) ∧ Out L k
/-- And not one's own slice. -/
def Ap (ok : Nat → Prop) (w0 : World) (L : List (Nat × Obj)) (u : Value) (k : Nat) : Prop := Fp ok w0 L k ∧ some k ≠ u.ownBlock
structure Kn (ok : Nat → Prop) (w0 : World) (L : List (Nat × Obj)) (u : Value) (U : Ft) (I : List Ft) (w : World) : Prop where
 bel : Below w0.heap.size w0 w
 mem : ∀ x ∈ L, w.heap[x.1]? = some x.2
 base : ∀ x ∈ L, w0.heap.size ≤ x.1
 nod : L.Pairwise (fun a b => a.1 ≠ b.1)
 own : U.P w (Fp ok w0 L)
 oob : ∀ k, u.ownBlock = some k → Out L k ∧ k < w.heap.size ∧ w0.heap.size ≤ k
 ims : ∀ f ∈ I, f.P w (Ap ok w0 L u)
variable {ok : Nat → Prop} {w0 w w1 : World} {L : List (Nat × Obj)} {u : Value} {U : Ft} {I : List Ft}
theorem Kn.lt (S : Kn ok w0 L u U I w) {x : Nat × Obj} (hx : x ∈ L) : x.1 < w.heap.size := blk_lt (S.mem x hx)
theorem Kn.start (ok : Nat → Prop) (w : World) : Kn ok w [] nil tt [] w := ⟨Below.refl _ _, (fun x h => nomatch h), (fun x h => nomatch h), List.Pairwise.nil, trivial, (fun k h => by simp [Value.ownBlock] at h), (fun f h => nomatch h)⟩
theorem Out.nil (k : Nat) : Out [] k := fun x h => nomatch h
theorem Ap.nil {ok : Nat → Prop} {w0 : World} (k : Nat) (h : ok k) : Ap ok w0 [] nil k := ⟨⟨.inl h, Out.nil k⟩, by simp [Value.ownBlock]⟩
theorem Kn.below (S : Kn ok w0 L u U I w) (hb : Below w.heap.size w w1) : Kn ok w0 L u U I w1 :=
 ⟨below_step S.bel hb, fun x hx => blk_below (S.mem x hx) hb, S.base, S.nod, U.step S.own (fun k _ hk => hb.block k hk), fun k hk => ⟨(S.oob k hk).1, Nat.lt_of_lt_of_le (S.oob k hk).2.1 hb.size, (S.oob k hk).2.2⟩, fun f hf => f.step (S.ims f hf) (fun k _ hk => hb.block k hk)⟩
theorem Kn.drew (S : Kn ok w0 L u U I w) : Kn ok w0 L u U I w.drew := S.below (below_drew (Below.refl _ _))
/-- A call that makes memory, and tells a slice. -/
theorem Kn.call (S : Kn ok w0 L u U I w) (hb : Below w.heap.size w w1) {f : Ft} (h : f.P w1 (fun k => Ap ok w0 L u k ∨ w.heap.size ≤ k)) : Kn ok w0 L u U (f :: I) w1 :=
 ⟨(S.below hb).bel, (S.below hb).mem, S.base, S.nod, (S.below hb).own, (S.below hb).oob, fun g hg => by
  rcases List.mem_cons.1 hg with rfl | hg
  ·refine g.mono h (fun k hk => ?_)
   rcases hk with hk | hk
   ·exact hk
   ·refine ⟨⟨.inr (Nat.le_trans S.bel.size hk), fun x hx => ?_⟩, fun e => ?_⟩
    ·have := S.lt hx
     omega
    ·have := (S.oob k e.symm).2.1
     omega
  ·exact (S.below hb).ims g hg⟩
theorem Kn.add (S : Kn ok w0 L u U I w) {f : Ft} (h : f.P w (Ap ok w0 L u)) : Kn ok w0 L u U (f :: I) w :=
 ⟨S.bel, S.mem, S.base, S.nod, S.own, S.oob, fun g hg => by
  rcases List.mem_cons.1 hg with rfl | hg
  ·exact h
  ·exact S.ims g hg⟩
/-- What is known of a slice. -/
theorem Kn.ft (S : Kn ok w0 L u U I w) (i : Nat) {f : Ft} (hi : I[i]? = some f) : f.P w (Ap ok w0 L u) := S.ims f (List.mem_of_getElem? hi)
theorem Kn.im (S : Kn ok w0 L u U I w) (i : Nat) {α : Type} {d : Kd α} {v : Value} {l : List α} (hi : I[i]? = some (V d v l)) : Im d w v l := Kd.V_mono (S.ft i hi) (fun _ _ => trivial)
/-- A new box. -/
theorem Kn.new (S : Kn ok w0 L u U I w) {o : Obj} (hg : w.alloc o = w1) : Kn ok w0 ((w.heap.size, o) :: L) u U I w1 := by
 have hb : Below w.heap.size w w1 := al_below hg
 have S1 := S.below hb
 refine ⟨S1.bel, ?_, ?_, ?_, ?_, ?_, ?_⟩
 ·intro x hx
  rcases List.mem_cons.1 hx with rfl | hx
  ·exact al_new hg
  ·exact S1.mem x hx
 ·intro x hx
  rcases List.mem_cons.1 hx with rfl | hx
  ·exact S.bel.size
  ·exact S.base x hx
 ·refine List.pairwise_cons.2 ⟨fun x hx => ?_, S.nod⟩
  have := S.lt hx
  show w.heap.size ≠ x.1
  omega
 ·refine U.mono (U.step (U.bound S.own) (fun k _ hk => hb.block k hk)) (fun k hk => ⟨hk.1.1, fun x hx => ?_⟩)
  rcases List.mem_cons.1 hx with rfl | hx
  ·exact Nat.ne_of_lt hk.2
  ·exact hk.1.2 x hx
 ·intro k hk
  obtain ⟨h1, h2, h3⟩ := S.oob k hk
  refine ⟨fun x hx => ?_, Nat.lt_of_lt_of_le h2 hb.size, h3⟩
  rcases List.mem_cons.1 hx with rfl | hx
  ·exact Nat.ne_of_lt h2
  ·exact h1 x hx
 ·intro f hf
  refine f.mono (f.step (f.bound (S.ims f hf)) (fun k _ hk => hb.block k hk)) (fun k hk => ⟨⟨hk.1.1.1, fun x hx => ?_⟩, hk.1.2⟩)
  rcases List.mem_cons.1 hx with rfl | hx
  ·exact Nat.ne_of_lt hk.2
  ·exact hk.1.1.2 x hx
theorem Kn.new2 (S : Kn ok w0 L u U I w) {o o' : Obj} (hg : (w.alloc o).alloc o' = w1) : Kn ok w0 ((w.heap.size + 1, o') :: (w.heap.size, o) :: L) u U I w1 := by
 have h := (S.new rfl).new hg
 rw [show (w.alloc o).heap.size = w.heap.size + 1 by simp] at h
 exact h
/-- A box that is not asked for any more. -/
theorem Kn.pop (S : Kn ok w0 L u U I w) (n : Nat) : Kn ok w0 (L.drop n) u U I w :=
 have hd : ∀ x, x ∈ L.drop n → x ∈ L := fun x hx => List.mem_of_mem_drop hx
 have ho : ∀ k, Out L k → Out (L.drop n) k := fun k h x hx => h x (hd x hx)
 ⟨S.bel, fun x hx => S.mem x (hd x hx), fun x hx => S.base x (hd x hx), List.Pairwise.sublist (List.drop_sublist n L) S.nod, U.mono S.own (fun k h => ⟨h.1, ho k h.2⟩), fun k hk => ⟨ho k (S.oob k hk).1, (S.oob k hk).2⟩, fun f hf => f.mono (S.ims f hf) (fun k h => ⟨⟨h.1.1, ho k h.1.2⟩, h.2⟩)⟩
/-- The slice that is one's own is only read from now on. -/
theorem Kn.shut (S : Kn ok w0 L u U I w) {U' : Ft} (h : ∀ {ok'}, U.P w ok' → U'.P w ok') : Kn ok w0 L nil tt (U' :: I) w :=
 have hn : ∀ k, Fp ok w0 L k → Ap ok w0 L nil k := fun k h => ⟨h, by simp [Value.ownBlock]⟩
 ⟨S.bel, S.mem, S.base, S.nod, trivial, (fun k h => by simp [Value.ownBlock] at h), fun f hf => by
  rcases List.mem_cons.1 hf with rfl | hf
  ·exact f.mono (h S.own) hn
  ·exact f.mono (S.ims f hf) (fun k hk => hn k hk.1)⟩
/-- A slice that one may write from now on. -/
theorem Kn.opened (S : Kn ok w0 L nil tt I w) {v : Value} {U' : Ft} (h : U'.P w (Fp ok w0 L)) (hv : v.ownBlock = none) : Kn ok w0 L v U' I w :=
 ⟨S.bel, S.mem, S.base, S.nod, h, (fun k hk => by rw [hv] at hk; cases hk), fun f hf => f.mono (S.ims f hf) (fun k hk => ⟨hk.1, by rw [hv]; simp⟩)⟩
theorem Kn.get (S : Kn ok w0 L u U I w) (i : Nat) {p : Nat} {o : Obj} (hi : L[i]? = some (p, o)) : w.heap[p]? = some o := S.mem (p, o) (List.mem_of_getElem? hi)
theorem Kn.cell (S : Kn ok w0 L u U I w) (i j : Nat) {p t : Nat} {cs : Array Value} {v : Value} (hi : L[i]? = some (p, .cells cs t (0, 0))) (hj : cs[j]? = some v) : w.cell? ⟨p, j, none⟩ = some v := (blk_cell (S.get i hi) j).trans hj
theorem Kn.frozen (S : Kn ok w0 L u U I w) (i j : Nat) {p t : Nat} {cs : Array Value} (hi : L[i]? = some (p, .cells cs t (0, 0))) : w.frozen? ⟨p, j, none⟩ = false := blk_frozen (S.get i hi) j
theorem Out.set {L : List (Nat × Obj)} {i p : Nat} {o o' : Obj} (hi : L[i]? = some (p, o)) (k : Nat) : Out (L.set i (p, o')) k ↔ Out L k := by
 constructor
 ·intro h x hx
  obtain ⟨j, hj, rfl⟩ := List.getElem_of_mem hx
  by_cases e : i = j
  ·subst e
   rw [List.getElem?_eq_getElem hj] at hi
   have := h (p, o') (List.mem_of_getElem? (i := i) (by rw [List.getElem?_set_self hj]))
   rw [Option.some.inj hi]
   exact this
  ·exact h L[j] (List.mem_of_getElem? (i := j) (by rw [List.getElem?_set_ne e, List.getElem?_eq_getElem hj]))
 ·intro h x hx
  rcases List.mem_or_eq_of_mem_set hx with hx | rfl
  ·exact h x hx
  ·exact h (p, o) (List.mem_of_getElem? hi)
/-- A box, or another thing that is the walk's own, is written. -/
theorem Kn.put (S : Kn ok w0 L u U I w) (i : Nat) {p : Nat} {o o' : Obj} (hi : L[i]? = some (p, o)) (hn : w1.heap[p]? = some o') (hk : ∀ k, k ≠ p → w1.heap[k]? = w.heap[k]?) (hs : w.heap.size = w1.heap.size) (hb : Below w0.heap.size w0 w1) : Kn ok w0 (L.set i (p, o')) u U I w1 := by
 have hm : (p, o) ∈ L := List.mem_of_getElem? hi
 have hlt : i < L.length := (List.getElem?_eq_some_iff.1 hi).1
 have hLi : L[i] = (p, o) := (List.getElem?_eq_some_iff.1 hi).2
 have hpw := List.pairwise_iff_getElem.1 S.nod
 refine ⟨hb, ?_, ?_, ?_, ?_, ?_, ?_⟩
 ·intro x hx
  obtain ⟨j, hj, rfl⟩ := List.getElem_of_mem hx
  have hj' : j < L.length := by simpa using hj
  rw [List.getElem_set]
  by_cases e : i = j
  ·subst e
   simpa using hn
  ·rw [if_neg e]
   refine (hk _ ?_).trans (S.mem _ (List.getElem_mem hj'))
   rcases Nat.lt_or_gt_of_ne e with h | h
   ·have := hpw i j hlt hj' h
    rw [hLi] at this
    exact this.symm
   ·have := hpw j i hj' hlt h
    rw [hLi] at this
    exact this
 ·intro x hx
  rcases List.mem_or_eq_of_mem_set hx with hx | rfl
  ·exact S.base x hx
  ·exact S.base (p, o) hm
 ·rw [List.pairwise_iff_getElem]
  intro a b ha hb' hab
  have ha' : a < L.length := by simpa using ha
  have hb'' : b < L.length := by simpa using hb'
  have key : ∀ j (hj : j < L.length) (hj2 : j < (L.set i (p, o')).length), (L.set i (p, o'))[j].1 = L[j].1 := by
   intro j hj hj2
   rw [List.getElem_set]
   by_cases e : i = j
   ·subst e
    simp [hLi]
   ·simp [e]
  rw [key a ha' ha, key b hb'' hb']
  exact hpw a b ha' hb'' hab
 ·refine U.mono (U.step S.own (fun k hok _ => hk k (fun e => hok.2 (p, o) hm e))) (fun k h => ⟨h.1, (Out.set hi k).2 h.2⟩)
 ·intro k hkk
  obtain ⟨h1, h2, h3⟩ := S.oob k hkk
  exact ⟨(Out.set hi k).2 h1, hs ▸ h2, h3⟩
 ·intro f hf
  refine f.mono (f.step (S.ims f hf) (fun k hok _ => hk k (fun e => hok.1.2 (p, o) hm e))) (fun k h => ⟨⟨h.1.1, (Out.set hi k).2 h.1.2⟩, h.2⟩)
theorem Kn.set (S : Kn ok w0 L u U I w) (i : Nat) {j p t : Nat} {cs : Array Value} {v : Value} (hg : w.setCell ⟨p, j, none⟩ v = w1) (hi : L[i]? = some (p, .cells cs t (0, 0))) : Kn ok w0 (L.set i (p, .cells (cs.setIfInBounds j v) t (0, 0))) u U I w1 := by
 subst hg
 refine S.put i hi (blk_set (S.get i hi) j v) (fun k hk => Below.heap_setCell w ⟨p, j, none⟩ v k hk) ?_ ?_
 ·simp [World.setCell]
 ·exact below_set S.bel (S.base _ (List.mem_of_getElem? hi))
/-- The slice that is one's own has grown. -/
theorem Kn.grown (S : Kn ok w0 L u U I w) {v1 : Value} {U' : Ft} (ho : U'.P w1 (Fp ok w0 L)) (hB : Below w0.heap.size w0 w1) (hg : w.grownBy w1 u.ownBlock) (hat : v1.ownBlock = u.ownBlock ∨ ∃ b, v1.ownBlock = some b ∧ w.heap.size ≤ b) (hob : ∀ k, v1.ownBlock = some k → k < w1.heap.size) : Kn ok w0 L v1 U' I w1 := by
 have hx : ∀ x ∈ L, some x.1 ≠ u.ownBlock := fun x hx e => (S.oob x.1 e.symm).1 x hx rfl
 refine ⟨hB, fun x hxx => blk_grown (S.mem x hxx) hg (hx x hxx), S.base, S.nod, ho, ?_, ?_⟩
 ·intro k hk
  rcases hat with hat | ⟨b, hb, hle⟩
  ·rw [hat] at hk
   obtain ⟨h1, h2, h3⟩ := S.oob k hk
   exact ⟨h1, hob k (hat ▸ hk), h3⟩
  ·have hkb : k = b := by rw [hb] at hk; exact (Option.some.inj hk).symm
   subst hkb
   refine ⟨fun x hxx => ?_, hob k hb, Nat.le_trans S.bel.size hle⟩
   have := S.lt hxx
   omega
 ·intro f hf
  refine f.mono (f.step (f.bound (S.ims f hf)) (fun k hk hlt => hg.block k hlt hk.1.2)) (fun k hk => ⟨hk.1.1, ?_⟩)
  rcases hat with hat | ⟨b, hb, hle⟩
  ·rw [hat]; exact hk.1.2
  ·rw [hb]
   intro e
   have := Option.some.inj e
   have := hk.2
   omega
theorem V_any {α : Type} {d : Kd α} {e base : Nat} {v : Value} {l : List α} (h : Kd.V d e w base ok v l) : (V d v l).P w ok := Kd.V_mono (e := e) (base := base) h (fun _ h => h)
/-- One's own slice, as its caller sees it. -/
theorem N_any {α : Type} {d : Kd α} {e base : Nat} {v : Value} {l : List α} (h : (N d e base v l).P w ok) : (V d v l).P w ok := V_any (Kd.N_V (base' := 0) h)
theorem Kn.out (S : Kn ok w0 L u U I w) (i : Nat) {f : Ft} (hi : I[i]? = some f) : f.P w (fun k => ok k ∨ w0.heap.size ≤ k) := f.mono (S.ft i hi) (fun _ hk => hk.1.1)
/-- Where a call of the caller's own begins. -/
theorem Kn.enter (ok : Nat → Prop) (w : World) {J : List Ft} (h : ∀ f ∈ J, f.P w ok) : Kn ok w [] nil tt J w :=
 ⟨Below.refl _ _, (fun x h => nomatch h), (fun x h => nomatch h), List.Pairwise.nil, trivial, (fun k h => by simp [Value.ownBlock] at h), fun f hf => f.mono (h f hf) (fun k hk => Ap.nil k hk)⟩
end Go.Proofs.Ytjccgdnnnlgeeaa.XSt
end

section
-- Written by a program of this session (wip/tools/xprint.py), which drives the kit's print.
namespace Go.Proofs.Ytjccgdnnnlgeeaa.PA
open Go.RowKit Go.Proofs.YtjccgdnnnlgeeaaW.PrintWords Go.Proofs.YtjccgdnnnlgeeaaW.PrintLast Go.Proofs.YtjccgdnnnlgeeaaW.PrintMore Go.Proofs.Ytjccgdnnnlgeeaa.XQuiet
attribute [local go_sem] min2_int min_two   -- for this text's walks alone
set_option linter.unusedVariables false
set_option linter.unusedSimpArgs false

/-! ### rollcallref05_May: function 29 -/
end Go.Proofs.Ytjccgdnnnlgeeaa.PA
end

section
-- Written by a program of this session (wip/tools/xprint.py), which drives the kit's print.
namespace Go.Proofs.Ytjccgdnnnlgeeaa.PA
open Go.RowKit Go.Proofs.YtjccgdnnnlgeeaaW.PrintWords Go.Proofs.YtjccgdnnnlgeeaaW.PrintLast Go.Proofs.YtjccgdnnnlgeeaaW.PrintMore
attribute [local go_sem] min2_int min_two   -- for this text's walks alone
set_option linter.unusedVariables false
set_option linter.unusedSimpArgs false

attribute [local go_sem high] eqA23
/-! ### rollcallref06_May: function 14 -/
end Go.Proofs.Ytjccgdnnnlgeeaa.PA
end

section
-- Written by a program of this session (wip/tools/xprint.py), which drives the kit's print.
namespace Go.Proofs.Ytjccgdnnnlgeeaa.PA
open Go.RowKit Go.Proofs.YtjccgdnnnlgeeaaW.PrintWords Go.Proofs.YtjccgdnnnlgeeaaW.PrintLast Go.Proofs.YtjccgdnnnlgeeaaW.PrintMore
attribute [local go_sem] min2_int min_two   -- for this text's walks alone
set_option linter.unusedVariables false
set_option linter.unusedSimpArgs false

/-! ### rollcallref05_Put: function 21 -/
end Go.Proofs.Ytjccgdnnnlgeeaa.PA
end

section
-- Written by a program of this session (wip/tools/xprint.py), which drives the kit's print.
namespace Go.Proofs.Ytjccgdnnnlgeeaa.PA
open Go.RowKit Go.Proofs.YtjccgdnnnlgeeaaW.PrintWords Go.Proofs.YtjccgdnnnlgeeaaW.PrintLast Go.Proofs.YtjccgdnnnlgeeaaW.PrintMore
attribute [local go_sem] min2_int min_two   -- for this text's walks alone
set_option linter.unusedVariables false
set_option linter.unusedSimpArgs false

/-! ### rollcallref06_plain: function 26 -/
def rollcallref06_plain.B1 : List Nat := [0, 1, 3, 7, 15, 0, 32, 96, 224, 511, 1023]
end Go.Proofs.Ytjccgdnnnlgeeaa.PA
end

section
-- Written by a program of this session (wip/tools/xprint.py), which drives the kit's print.
namespace Go.Proofs.Ytjccgdnnnlgeeaa.PA
open Go.RowKit Go.Proofs.YtjccgdnnnlgeeaaW.PrintWords Go.Proofs.YtjccgdnnnlgeeaaW.PrintLast Go.Proofs.YtjccgdnnnlgeeaaW.PrintMore Go.Proofs.Ytjccgdnnnlgeeaa.XQuiet
attribute [local go_sem] min2_int min_two   -- for this text's walks alone
set_option linter.unusedVariables false
set_option linter.unusedSimpArgs false

attribute [local go_sem high] eqA23 eqA52
/-! ### rollcallref06_Encode: function 12 -/
/-! ### rollcallref05_Same: function 23 -/
/-! ### rollcallref06_Same: function 16 -/
/-! ### rollcallref02_Open: function 22 -/
/-! ### rollcallref01_Get: function 43 -/
end Go.Proofs.Ytjccgdnnnlgeeaa.PA
end

section
-- Written by a program of this session (wip/tools/xprint.py), which drives the kit's print.
namespace Go.Proofs.Ytjccgdnnnlgeeaa.PA
open Go.RowKit Go.Proofs.YtjccgdnnnlgeeaaW.PrintWords Go.Proofs.YtjccgdnnnlgeeaaW.PrintLast Go.Proofs.YtjccgdnnnlgeeaaW.PrintMore
attribute [local go_sem] min2_int min_two   -- for this text's walks alone
set_option linter.unusedVariables false
set_option linter.unusedSimpArgs false

/-! ### rollcallref01_Take: function 60 -/
/-! ### rollcallref03_Take: function 44 -/
/-! ### rollcallref04_Take: function 45 -/
def rollcallref04_Take.B13 : List Nat := [0, 0, 3, 7, 0, 0, 32, 112, 240, 496, 0, 1024, 0, 8191, 0, 32767]
end Go.Proofs.Ytjccgdnnnlgeeaa.PA
end

section
-- Written by a program of this session (wip/tools/xprint.py), which drives the kit's print.
namespace Go.Proofs.Ytjccgdnnnlgeeaa.PA
open Go.RowKit Go.Proofs.YtjccgdnnnlgeeaaW.PrintWords Go.Proofs.YtjccgdnnnlgeeaaW.PrintLast Go.Proofs.YtjccgdnnnlgeeaaW.PrintMore
attribute [local go_sem] min2_int min_two   -- for this text's walks alone
set_option linter.unusedVariables false
set_option linter.unusedSimpArgs false

/-! ### rollcallref05_Take: function 46 -/
end Go.Proofs.Ytjccgdnnnlgeeaa.PA
end

section
-- Written by a program of this session (wip/tools/xprint.py), which drives the kit's print.
namespace Go.Proofs.Ytjccgdnnnlgeeaa.PA
open Go.RowKit Go.Proofs.YtjccgdnnnlgeeaaW.PrintWords Go.Proofs.YtjccgdnnnlgeeaaW.PrintLast Go.Proofs.YtjccgdnnnlgeeaaW.PrintMore
attribute [local go_sem] min2_int min_two   -- for this text's walks alone
set_option linter.unusedVariables false
set_option linter.unusedSimpArgs false

/-! ### rollcallref06_read: function 33 -/
def rollcallref06_read.B25 : List Nat := [0, 1, 3, 0, 0, 24, 56, 127, 255, 511]
end Go.Proofs.Ytjccgdnnnlgeeaa.PA
end

section
-- Written by a program of this session (wip/tools/xprint.py), which drives the kit's print.
namespace Go.Proofs.Ytjccgdnnnlgeeaa.PA
open Go.RowKit Go.Proofs.YtjccgdnnnlgeeaaW.PrintWords Go.Proofs.YtjccgdnnnlgeeaaW.PrintLast Go.Proofs.YtjccgdnnnlgeeaaW.PrintMore
attribute [local go_sem] min2_int min_two   -- for this text's walks alone
set_option linter.unusedVariables false
set_option linter.unusedSimpArgs false

/-! ### rollcallref06_Decode: function 18 -/
/-! ### ident_Less: function 72 -/
abbrev ident_Less.f := @Go.Proofs.Ytjccgdnnnlgeeaa.XLess.ident_Less.f
set_option maxHeartbeats 1000000 in
theorem ident_Less.calls (a0 : ByteArray) (a1 : ByteArray) (r : Bool) (w : World) (h : ident_Less.f a0 a1 = some r) :
  Calls Try.prog 72 #[.string a0, .string a1] w fun e w' => e = .returned (.bool r) ∧ Below w.heap.size w w' := Go.Proofs.Ytjccgdnnnlgeeaa.XLess.ident_Less.calls a0 a1 r w h

end Go.Proofs.Ytjccgdnnnlgeeaa.PA
end

section
-- Written by a program of this session (wip/tools/xprint.py), which drives the kit's print.
namespace Go.Proofs.Ytjccgdnnnlgeeaa.PA
open Go.RowKit Go.Proofs.YtjccgdnnnlgeeaaW.PrintWords Go.Proofs.YtjccgdnnnlgeeaaW.PrintLast Go.Proofs.YtjccgdnnnlgeeaaW.PrintMore Go.Proofs.Ytjccgdnnnlgeeaa.XQuiet
attribute [local go_sem] min2_int min_two   -- for this text's walks alone
set_option linter.unusedVariables false
set_option linter.unusedSimpArgs false

/-! ### digest_May: function 65 -/
def digest_May.l0 : Nat → List (S52) → List (S52) → Int → Int → Option (Bool)
 | 0, _, _, _, _ => none
 | k + 1, x0, x5, x6, x7 => if x7 < x6 then (if 0 ≤ x7 then (if x7 < (x5.length : Int) then ((ident_Is.f ((rd_T52 x5 x7).f0)).bind fun t311 => (if t311 = true then ((value_May.f ((rd_T52 x5 x7).f1.f0) ((rd_T52 x5 x7).f1.f1) ((rd_T52 x5 x7).f1.f2) ((rd_T52 x5 x7).f1.f3)).bind fun t312 => (if t312 = true then (if x7 > 0 then (if 0 ≤ (wrap64 (x7 - 1)) then (if (wrap64 (x7 - 1)) < (x0.length : Int) then ((ident_Less.f ((rd_T52 x0 (wrap64 (x7 - 1))).f0) ((rd_T52 x5 x7).f0)).bind fun t314 => (if t314 = true then (digest_May.l0 k x0 x5 x6 (wrap64 (x7 + 1))) else (some false))) else (none)) else (none)) else (digest_May.l0 k x0 x5 x6 (wrap64 (x7 + 1)))) else (some false))) else (some false))) else (none)) else (none)) else (some (decide ((x0.length : Int) ≤ 32)))
def digest_May.f (k : Nat) (l0 : List (S52)) : Option (Bool) := digest_May.l0 k l0 l0 (l0.length : Int) 0
set_option maxHeartbeats 8000000 in
set_option maxRecDepth 100000 in
theorem digest_May.calls (k : Nat) (A0 : Option Addr) (c0 : Nat) (l0 : List (S52)) (r : Bool) (w : World) (hr0 : Kd.C k52 w A0 l0.length l0) (hc0 : l0.length ≤ c0) (h : digest_May.f k l0 = some r) :
  Calls Try.prog 65 #[.slice A0 l0.length c0] w fun e w' => e = .returned (.bool r) ∧ Below w.heap.size w w' := by
 unfold digest_May.f at h
 have hm63 : (l0.length : Int) ≤ 9223372036854775807 := by have := hr0.2.1; omega
 have HR := Aside0.mk hr0
 have HH := Aside0.mk h
 clear hr0 hc0 h
 go_enter Try.func65, Try.ntmps65
 have HB := Aside0.mk (Below.refl w.heap.size w)
 go_wp2
 go_loopg [7] k (fun g x wr => ∃ i : Nat, x = .int .i64 i ∧ i ≤ l0.length ∧ Aside0 (digest_May.l0 g l0 l0 (l0.length : Int) (i : Int) = some r) ∧ Aside0 (Below w.heap.size w wr))
 case atStart => exact ⟨0, rfl, Nat.zero_le _, HH, HB⟩
 case round =>
  obtain ⟨i, rfl, hi, hh, hb⟩ := hrel
  clear HH HB
  obtain ⟨g, rfl⟩ : ∃ g, gk = g + 1 := by
   cases gk with
   | zero => exact absurd hh.out (by simp [digest_May.l0])
   | succ g => exact ⟨g, rfl⟩
  have h := hh.out
  clear hh
  rw [digest_May.l0] at h
  by_cases hlt : (i : Int) < (l0.length : Int)
  ·rw [if_pos hlt, if_pos (by omega), if_pos hlt] at h
   have hC := Kd.C_below HR.out hb.out
   obtain ⟨ad, he, h0, h1, h2, h3, h4⟩ := at_T52 hC (i : Int) (by omega) (by omega)
   subst he
   rw [Int.toNat_natCast] at h0 h1 h2 h3 h4
   have h0i : (0 : Int) ≤ (i : Int) := by omega
   generalize rd_T52 l0 (i : Int) = x at h h0 h1 h2 h3 h4
   go_upto_region 4 with (fail)
   generalize hg : World.alloc _ _ = w2
   have hb2 : Below wr.heap.size wr w2 := hg ▸ below_alloc (Below.refl _ _) _
   have T4 : w2.heap[wr.heap.size]? = some (.cells #[.string x.f0, .int .i64 x.f1.f0, .int .i64 x.f1.f1, .int .i64 x.f1.f2, .string x.f1.f3] 52 (0, 0)) := hg ▸ heap_alloc_new _ _
   replace hb := Aside0.mk (below_step hb.out hb2)
   replace hC := Kd.C_below hC hb2
   clear h0 h1 h2 h3 h4 hg hb2
   generalize wr.heap.size = p4 at T4 ⊢
   have h0 := (blk_cell T4 0).trans rfl
   have h1 := (blk_cell T4 1).trans rfl
   have h2 := (blk_cell T4 2).trans rfl
   have h3 := (blk_cell T4 3).trans rfl
   have h4 := (blk_cell T4 4).trans rfl
   clear T4
   rcases hI : ident_Is.f x.f0 with _ | b1
   ·rw [hI] at h; exact absurd h (by simp)
   rw [hI] at h
   simp only [Option.bind_some] at h
   have d1 := fun u : Kin w2 => ident_Is.calls x.f0 b1 u.at' hI
   have y0 : ∀ u : Kin w2, u.at'.cell? _ = _ := Kin.cell h0
   have y1 : ∀ u : Kin w2, u.at'.cell? _ = _ := Kin.cell h1
   have y2 : ∀ u : Kin w2, u.at'.cell? _ = _ := Kin.cell h2
   have y3 : ∀ u : Kin w2, u.at'.cell? _ = _ := Kin.cell h3
   have y4 : ∀ u : Kin w2, u.at'.cell? _ = _ := Kin.cell h4
   clear hI
   cases b1 with
   | false =>
    rw [if_neg (by simp)] at h
    obtain rfl := Option.some.inj h
    go_wp2_with fail
    refine region_kin (by kernel_rfl) (by kernel_rfl) ?_
    repeat (go_big_quiet_step ((first | (go_at_call 68; first | exact Kin.call (d1 _) | exact Kin.same (d1 _) | exact Kin.call ((d1 _).mono fun _ _ q => ⟨q.1, q.2.below⟩)))))
    refine wpQuiet_nil ?_
    rintro w6 ⟨⟨_, b6⟩, rfl⟩
    have HX := Aside0.mk (below_step hb.out b6)
    clear hC h0 h1 h2 h3 h4 y0 y1 y2 y3 y4 d1 hb b6
    go_wp2
    go_ret
    exact ⟨rfl, HX.out⟩
   | true =>
    rw [if_pos rfl] at h
    rcases hJ : value_May.f x.f1.f0 x.f1.f1 x.f1.f2 x.f1.f3 with _ | b2
    ·rw [hJ] at h; exact absurd h (by simp)
    rw [hJ] at h
    simp only [Option.bind_some] at h
    have d2 := fun u : Kin w2 => value_May.calls x.f1.f0 x.f1.f1 x.f1.f2 x.f1.f3 b2 u.at' hJ
    clear hJ
    cases b2 with
    | false =>
     rw [if_neg (by simp)] at h
     obtain rfl := Option.some.inj h
     go_wp2_with fail
     refine region_kin (by kernel_rfl) (by kernel_rfl) ?_
     repeat (go_big_quiet_step ((first | (go_at_call 68; first | exact Kin.call (d1 _) | exact Kin.same (d1 _) | exact Kin.call ((d1 _).mono fun _ _ q => ⟨q.1, q.2.below⟩)) | (go_at_call 70; first | exact Kin.call (d2 _) | exact Kin.same (d2 _) | exact Kin.call ((d2 _).mono fun _ _ q => ⟨q.1, q.2.below⟩)))))
     refine wpQuiet_nil ?_
     rintro w6 ⟨⟨_, b6⟩, rfl⟩
     have HX := Aside0.mk (below_step hb.out b6)
     clear hC h0 h1 h2 h3 h4 y0 y1 y2 y3 y4 d1 hb b6
     go_wp2
     go_ret
     exact ⟨rfl, HX.out⟩
    | true =>
     rw [if_pos rfl] at h
     by_cases hp : (i : Int) > 0
     rotate_left
     ·rw [if_neg hp] at h
      have hp' : ¬ (0 : Int) < (i : Int) := hp
      have hpd : decide ((0 : Int) < (i : Int)) = false := decide_eq_false hp'
      have hpn : decide (0 < i) = false := decide_eq_false (by omega)
      clear hp'
      go_wp2_with fail
      refine region_kin (by kernel_rfl) (by kernel_rfl) ?_
      repeat (go_big_quiet_step ((first | (go_at_call 68; first | exact Kin.call (d1 _) | exact Kin.same (d1 _) | exact Kin.call ((d1 _).mono fun _ _ q => ⟨q.1, q.2.below⟩)) | (go_at_call 70; first | exact Kin.call (d2 _) | exact Kin.same (d2 _) | exact Kin.call ((d2 _).mono fun _ _ q => ⟨q.1, q.2.below⟩)))))
      refine wpQuiet_nil ?_
      rintro w6 ⟨⟨_, b6⟩, rfl⟩
      have HX := Aside0.mk (below_step hb.out b6)
      rw [show wrap64 ((i : Int) + 1) = ((i + 1 : Nat) : Int) by unfold wrap64; omega] at h
      have HN := Aside0.mk h
      have hw : IntKind.i64.wrap ((i : Int) + 1) = (i : Int) + 1 := by rw [IntKind.wrap_i64]; omega
      clear hC h0 h1 h2 h3 h4 y0 y1 y2 y3 y4 d1 hb b6 h
      go_wp2
      go_roundg g
      case measure => omega
      case rel => exact ⟨i + 1, by first | rfl | (congr 1), by omega, HN, HX⟩
     ·rw [if_pos hp] at h
      have hw1 : wrap64 ((i : Int) - 1) = ((i - 1 : Nat) : Int) := by unfold wrap64; omega
      have hw2 : IntKind.i64.wrap ((i : Int) - 1) = ((i - 1 : Nat) : Int) := by rw [IntKind.wrap_i64]; omega
      rw [hw1, if_pos (by omega), if_pos (by omega)] at h
      obtain ⟨ad2, he2, j0, _⟩ := at_T52 hC ((i - 1 : Nat) : Int) (by omega) (by omega)
      obtain rfl : ad = ad2 := by injection he2
      rw [Int.toNat_natCast] at j0
      have hp' : (0 : Int) < (i : Int) := hp
      have hpd : decide ((0 : Int) < (i : Int)) = true := decide_eq_true hp'
      have hpn : decide (0 < i) = true := decide_eq_true (by omega)
      have hq0 : (0 : Int) ≤ ((i - 1 : Nat) : Int) := by omega
      have hq1 : ((i - 1 : Nat) : Int) < (l0.length : Int) := by omega
      generalize rd_T52 l0 ((i - 1 : Nat) : Int) = y at h j0
      rcases hK : ident_Less.f y.f0 x.f0 with _ | b3
      ·rw [hK] at h; exact absurd h (by simp)
      rw [hK] at h
      simp only [Option.bind_some] at h
      have d3 := fun u : Kin w2 => ident_Less.calls y.f0 x.f0 b3 u.at' hK
      have y5 : ∀ u : Kin w2, u.at'.cell? _ = _ := Kin.cell j0
      clear hK hp hw1 he2
      cases b3 with
      | false =>
       rw [if_neg (by simp)] at h
       obtain rfl := Option.some.inj h
       go_wp2_with fail
       refine region_kin (by kernel_rfl) (by kernel_rfl) ?_
       repeat (go_big_quiet_step ((first | (go_at_call 68; first | exact Kin.call (d1 _) | exact Kin.same (d1 _) | exact Kin.call ((d1 _).mono fun _ _ q => ⟨q.1, q.2.below⟩)) | (go_at_call 70; first | exact Kin.call (d2 _) | exact Kin.same (d2 _) | exact Kin.call ((d2 _).mono fun _ _ q => ⟨q.1, q.2.below⟩)) | (go_at_call 72; first | exact Kin.call (d3 _) | exact Kin.same (d3 _) | exact Kin.call ((d3 _).mono fun _ _ q => ⟨q.1, q.2.below⟩)))))
       refine wpQuiet_nil ?_
       rintro w6 ⟨⟨_, b6⟩, rfl⟩
       have HX := Aside0.mk (below_step hb.out b6)
       clear hC h0 h1 h2 h3 h4 y0 y1 y2 y3 y4 d1 hb b6
       go_wp2
       go_ret
       exact ⟨rfl, HX.out⟩
      | true =>
       rw [if_pos rfl] at h
       go_wp2_with fail
       refine region_kin (by kernel_rfl) (by kernel_rfl) ?_
       repeat (go_big_quiet_step ((first | (go_at_call 68; first | exact Kin.call (d1 _) | exact Kin.same (d1 _) | exact Kin.call ((d1 _).mono fun _ _ q => ⟨q.1, q.2.below⟩)) | (go_at_call 70; first | exact Kin.call (d2 _) | exact Kin.same (d2 _) | exact Kin.call ((d2 _).mono fun _ _ q => ⟨q.1, q.2.below⟩)) | (go_at_call 72; first | exact Kin.call (d3 _) | exact Kin.same (d3 _) | exact Kin.call ((d3 _).mono fun _ _ q => ⟨q.1, q.2.below⟩)))))
       refine wpQuiet_nil ?_
       rintro w6 ⟨⟨_, b6⟩, rfl⟩
       have HX := Aside0.mk (below_step hb.out b6)
       rw [show wrap64 ((i : Int) + 1) = ((i + 1 : Nat) : Int) by unfold wrap64; omega] at h
       have HN := Aside0.mk h
       have hw : IntKind.i64.wrap ((i : Int) + 1) = (i : Int) + 1 := by rw [IntKind.wrap_i64]; omega
       clear hC h0 h1 h2 h3 h4 y0 y1 y2 y3 y4 d1 hb b6 h
       go_wp2
       go_roundg g
       case measure => omega
       case rel => exact ⟨i + 1, by first | rfl | (congr 1), by omega, HN, HX⟩
  ·rw [if_neg hlt] at h
   obtain rfl := Option.some.inj h
   have hlt' : (l0.length : Int) ≤ (i : Int) := by omega
   have hnd : decide ((i : Int) < (l0.length : Int)) = false := decide_eq_false hlt
   clear h hlt
   go_wp2
   go_ret
   exact ⟨rfl, hb.out⟩
end Go.Proofs.Ytjccgdnnnlgeeaa.PA
end

section
/- Small laws that every plain part wants: wraps, texts by their bytes, rows of a list. -/

namespace Go.Proofs.Ytjccgdnnnlgeeaa.XGen
open Go.RowKit Go.Proofs.YtjccgdnnnlgeeaaW.PrintWords Go.Proofs.YtjccgdnnnlgeeaaW.PrintLast Go.Proofs.YtjccgdnnnlgeeaaW.PrintMore
set_option linter.unusedVariables false
set_option linter.unusedSimpArgs false
theorem wrap_id (n : Int) (h0 : -9223372036854775808 ≤ n) (h1 : n ≤ 9223372036854775807) : wrap64 n = n := by unfold wrap64; omega
theorem wrap_succ (n : Nat) (h : n < 9223372036854775807) : wrap64 ((n : Int) + 1) = ((n + 1 : Nat) : Int) := by unfold wrap64; omega
theorem size_len (s : ByteArray) : s.size = s.data.toList.length := by rw [Array.length_toList]; rfl
theorem ba_ext {a b : ByteArray} (h : a.data.toList = b.data.toList) : a = b := by
 apply ByteArray.ext
 exact Array.toList_inj.1 h
theorem ba_ext' {a b : ByteArray} (h : a.toList = b.toList) : a = b := ba_ext (by rw [← Lib.toList_data, ← Lib.toList_data]; exact h)
theorem toList_inj {a b : ByteArray} : a.toList = b.toList ↔ a = b := ⟨ba_ext', fun h => by rw [h]⟩
theorem drop_get {α : Type} (l : List α) (i : Nat) (h : i < l.length) : l.drop i = l[i] :: l.drop (i + 1) := List.drop_eq_getElem_cons h
theorem getD_lt {α : Type} (l : List α) (z : α) (i : Nat) (h : i < l.length) : l.getD i z = l[i] := by rw [List.getD_eq_getElem?_getD, List.getElem?_eq_getElem h]; rfl
end Go.Proofs.Ytjccgdnnnlgeeaa.XGen
end

section
/- What the references of names, values and tables answer, in plain functions (for seats without queues). Written by wip/tools/mk_ref06.py. -/
namespace Go.Proofs.Ytjccgdnnnlgeeaa.XV17
open Go.RowKit Go.Proofs.Ytjccgdnnnlgeeaa.PA Go.Proofs.YtjccgdnnnlgeeaaW.PrintWords Go.Proofs.YtjccgdnnnlgeeaaW.PrintLast Go.Proofs.Ytjccgdnnnlgeeaa.XGen
open Go.Proofs.Ytjccgdnnnlgeeaa.XIdent (isB okAt)
open Go.Proofs.Ytjccgdnnnlgeeaa.XMay (mayB numsB)
open Go.Proofs.Ytjccgdnnnlgeeaa.XOdd (odd)
open Go.Proofs.Ytjccgdnnnlgeeaa.XLess (lessB)
set_option linter.unusedVariables false
set_option linter.unusedSimpArgs false
def okR (s : ByteArray) (j : Nat) : Prop := (97 ≤ bt s j ∧ bt s j ≤ 122) ∨ (48 ≤ bt s j ∧ bt s j ≤ 57) ∨ bt s j = 45
instance (s : ByteArray) (j : Nat) : Decidable (okR s j) := by unfold okR; infer_instance
abbrev Se := S52
theorem less_bytes : ∀ a b : List UInt8, Op.bytesLess a b = decide (Lib.compareBytes a b < 0)
 | [], [] => rfl
 | [], _ :: _ => rfl
 | _ :: _, [] => rfl
 | x :: a, y :: b => by
  rw [Op.bytesLess, Lib.compareBytes]
  by_cases c : x < y
  ·simp [c]
  ·rw [if_neg c]
   by_cases d : y < x
   ·rw [if_pos d]
    have hne : ¬ x = y := fun e => by subst e; exact c d
    simp [c, hne]
   ·rw [if_neg d]
    have he : x = y := by
     have h1 : ¬ x.toNat < y.toNat := fun h => c h
     have h2 : ¬ y.toNat < x.toNat := fun h => d h
     exact UInt8.toNat_inj.1 (by omega)
    subst he
    simp [less_bytes a b]
theorem rdS_at (l : List Se) (j : Nat) (h : j < l.length) : rd_T52 l (j : Int) = l[j] := by
 unfold rd_T52
 rw [Int.toNat_natCast, getD_lt l _ j h]
theorem fewSL (l : List Se) (hl : l.length ≤ 1000000) : ∀ (d k j : Nat), j + d = l.length → d < k → ∃ b, rollcallref05_Few.l0 k l (j : Int) = some b := by
 intro d
 induction d with
 | zero =>
  intro k j hj hk
  obtain ⟨k, rfl⟩ : ∃ m, k = m + 1 := ⟨k - 1, by omega⟩
  rw [rollcallref05_Few.l0, if_neg (by omega)]
  exact ⟨_, rfl⟩
 | succ d ih =>
  intro k j hj hk
  obtain ⟨k, rfl⟩ : ∃ m, k = m + 1 := ⟨k - 1, by omega⟩
  rw [rollcallref05_Few.l0, if_pos (by omega), if_pos (by omega), wrap_succ j (by omega)]
  obtain ⟨b, hb⟩ := ih k (j + 1) (by omega) (by omega)
  split
  ·exact ⟨_, rfl⟩
  ·split
   ·exact ⟨_, rfl⟩
   ·exact ⟨b, hb⟩
theorem fewS_f (k : Nat) (l : List Se) (hk : 60 ≤ k) : ∃ q, rollcallref05_Few.f k l = some q ∧ (q = true → l.length ≤ 40) := by
 unfold rollcallref05_Few.f
 by_cases c : (l.length : Int) > 40
 ·rw [if_pos c]; exact ⟨_, rfl, fun h => by cases h⟩
 ·rw [if_neg c]
  obtain ⟨b, hb⟩ := fewSL l (by omega) l.length k 0 (by omega) (by omega)
  exact ⟨b, hb, fun _ => by omega⟩
theorem wrap_pred (j : Nat) (h : 0 < j) (h2 : j < 1000000000) : wrap64 ((j : Int) - 1) = ((j - 1 : Nat) : Int) := by
 rw [show ((j : Int) - 1) = ((j - 1 : Nat) : Int) by omega]
 unfold wrap64; omega
theorem bl_irr : ∀ a : List UInt8, Op.bytesLess a a = false
 | [] => rfl
 | x :: a => by rw [Op.bytesLess]; simp [bl_irr a]
theorem bl_trans : ∀ a b c : List UInt8, Op.bytesLess a b = true → Op.bytesLess b c = true → Op.bytesLess a c = true
 | [], [], _, h, _ => by simp [Op.bytesLess] at h
 | _ :: _, [], _, h, _ => by simp [Op.bytesLess] at h
 | [], _ :: _, [], _, h => by simp [Op.bytesLess] at h
 | _ :: _, _ :: _, [], _, h => by simp [Op.bytesLess] at h
 | [], _ :: _, _ :: _, _, _ => by simp [Op.bytesLess]
 | x :: a, y :: b, z :: c, h, g => by
  rw [Op.bytesLess] at h g ⊢
  simp only [Bool.or_eq_true, Bool.and_eq_true, decide_eq_true_eq, beq_iff_eq] at h g ⊢
  have ih := bl_trans a b c
  rcases h with h | ⟨h, h'⟩ <;> rcases g with g | ⟨g, g'⟩
  ·exact Or.inl (UInt8.lt_trans h g)
  ·subst g; exact Or.inl h
  ·subst h; exact Or.inl g
  ·subst h; subst g; exact Or.inr ⟨rfl, ih h' g'⟩
theorem less_iff (a b : ByteArray) : lessB a b = true ↔ a.size < b.size ∨ (a.size = b.size ∧ Op.bytesLess a.data.toList b.data.toList = true) := by
 unfold lessB XLess.ordI XLess.orI XLess.cmpI XLess.byBytes
 rw [less_bytes]
 by_cases c : (a.size : Int) < (b.size : Int)
 ·rw [if_pos c]; simp; omega
 ·rw [if_neg c]
  by_cases d : (a.size : Int) = (b.size : Int)
  ·rw [if_neg (by omega)]; simp; omega
  ·rw [if_pos (by omega)]; simp; omega
theorem lessB_trans {a b c : ByteArray} (h : lessB a b = true) (g : lessB b c = true) : lessB a c = true := by
 rw [less_iff] at *
 rcases h with h | ⟨h, h'⟩ <;> rcases g with g | ⟨g, g'⟩
 ·exact Or.inl (by omega)
 ·exact Or.inl (by omega)
 ·exact Or.inl (by omega)
 ·exact Or.inr ⟨by omega, bl_trans _ _ _ h' g'⟩
def Srt (t : List Se) : Prop := t.Pairwise fun x y => lessB x.f0 y.f0 = true
theorem srt_of (t : List Se) (h : ∀ (i : Nat) (hi : i < t.length), 0 < i → lessB (t[i - 1]'(by omega)).f0 t[i].f0 = true) : Srt t := by
 refine List.pairwise_iff_getElem.2 fun i j hi hj hij => ?_
 induction j with
 | zero => omega
 | succ j ih =>
  have h1 := h (j + 1) hj (by omega)
  by_cases e : i = j
  ·subst e; exact h1
  ·exact lessB_trans (ih (by omega) (by omega)) h1
theorem may_f (a0 a1 a2 : Int) (a3 : ByteArray) : value_May.f a0 a1 a2 a3 = some (mayB a0 a1 a2 a3) := rfl
def rowOk (x : Se) : Bool := isB x.f0 && mayB x.f1.f0 x.f1.f1 x.f1.f2 x.f1.f3
def nthS (t : List Se) (j : Nat) : Se := t.getD j z52
theorem nthS_get (t : List Se) (j : Nat) (h : j < t.length) : nthS t j = t[j] := getD_lt t _ j h
def allT (t : List Se) : Nat → Nat → Bool
 | 0, _ => true
 | d + 1, j => rowOk (nthS t j) && ((decide (j = 0) || lessB (nthS t (j - 1)).f0 (nthS t j).f0) && allT t d (j + 1))
def mayT (t : List Se) : Bool := decide (t.length ≤ 32) && allT t t.length 0
theorem digMayTL (t : List Se) (ht : t.length ≤ 1000) (hs : ∀ x ∈ t, x.f0.size ≤ 9223372036854775807) : ∀ (d k j : Nat), j + d = t.length → d < k → digest_May.l0 k t t (t.length : Int) (j : Int) = some (allT t d j && decide (t.length ≤ 32)) := by
 intro d
 induction d with
 | zero =>
  intro k j hj hk
  obtain ⟨k, rfl⟩ : ∃ m, k = m + 1 := ⟨k - 1, by omega⟩
  rw [digest_May.l0, if_neg (by omega), allT]
  simp only [Bool.true_and, Option.some.injEq, decide_eq_decide]
  omega
 | succ d ih =>
  intro k j hj hk
  obtain ⟨k, rfl⟩ : ∃ m, k = m + 1 := ⟨k - 1, by omega⟩
  have hI : XIdent.ident_Is.f t[j].f0 = some (isB t[j].f0) := by unfold XIdent.ident_Is.f; rw [if_pos (hs _ (List.getElem_mem _))]
  rw [digest_May.l0, if_pos (by omega), if_pos (by omega), if_pos (by omega), rdS_at t j (by omega), show ident_Is.f t[j].f0 = some (isB t[j].f0) from hI, may_f, allT, nthS_get t j (by omega), rowOk]
  simp only [Option.bind_some]
  have hb := ih k (j + 1) (by omega) (by omega)
  cases isB t[j].f0 with
  | false => simp
  | true =>
   cases mayB t[j].f1.f0 t[j].f1.f1 t[j].f1.f2 t[j].f1.f3 with
   | false => simp
   | true =>
    rw [if_pos rfl, if_pos rfl]
    by_cases c : (j : Int) > 0
    ·rw [if_pos c, wrap_pred j (by omega) (by omega), if_pos (by omega), if_pos (by omega), rdS_at t (j - 1) (by omega), nthS_get t (j - 1) (by omega), decide_eq_false (show ¬ j = 0 by omega)]
     have hL : XLess.ident_Less.f (t[j - 1]'(by omega)).f0 t[j].f0 = some (lessB (t[j - 1]'(by omega)).f0 t[j].f0) := rfl
     rw [show ident_Less.f (t[j - 1]'(by omega)).f0 t[j].f0 = some (lessB (t[j - 1]'(by omega)).f0 t[j].f0) from hL]
     simp only [Option.bind_some]
     cases lessB (t[j - 1]'(by omega)).f0 t[j].f0 with
     | false => simp
     | true => rw [if_pos rfl, wrap_succ j (by omega), hb]; simp
    ·rw [if_neg c, wrap_succ j (by omega), hb, decide_eq_true (show j = 0 by omega)]; simp
theorem digMayT_b (k : Nat) (t : List Se) (ht : t.length ≤ 1000) (hs : ∀ x ∈ t, x.f0.size ≤ 9223372036854775807) (hk : t.length < k) : digest_May.f k t = some (mayT t) := by
 unfold digest_May.f mayT
 have := digMayTL t ht hs t.length k 0 (by omega) hk
 rw [show ((0 : Nat) : Int) = 0 from rfl] at this
 rw [this, Bool.and_comm]
theorem allT_iff (t : List Se) : ∀ (d j : Nat), j + d = t.length → (allT t d j = true ↔ ∀ (i : Nat) (hi : i < t.length), j ≤ i → rowOk t[i] = true ∧ (0 < i → lessB (t[i - 1]'(by omega)).f0 t[i].f0 = true)) := by
 intro d
 induction d with
 | zero => intro j hj; exact ⟨fun _ i hi hji => by omega, fun _ => rfl⟩
 | succ d ih =>
  intro j hj
  rw [allT, Bool.and_eq_true, Bool.and_eq_true, ih (j + 1) (by omega), nthS_get t j (by omega)]
  constructor
  ·rintro ⟨h1, h2, h3⟩ i hi hji
   by_cases e : i = j
   ·subst e
    refine ⟨h1, fun h0 => ?_⟩
    rw [nthS_get t (i - 1) (by omega)] at h2
    rcases Bool.or_eq_true _ _ ▸ h2 with h | h
    ·have := of_decide_eq_true h; omega
    ·exact h
   ·exact h3 i hi (by omega)
  ·intro h
   refine ⟨(h j (by omega) (by omega)).1, ?_, fun i hi hji => h i hi (by omega)⟩
   by_cases e : j = 0
   ·rw [decide_eq_true e]; rfl
   ·rw [nthS_get t (j - 1) (by omega), (h j (by omega) (by omega)).2 (by omega)]; simp
theorem mayT_iff (t : List Se) : mayT t = true ↔ t.length ≤ 32 ∧ (∀ x ∈ t, rowOk x = true) ∧ Srt t := by
 unfold mayT
 rw [Bool.and_eq_true, decide_eq_true_iff, allT_iff t t.length 0 (by omega)]
 constructor
 ·rintro ⟨h1, h2⟩
  refine ⟨h1, fun x hx => ?_, srt_of t fun i hi h0 => (h2 i hi (by omega)).2 h0⟩
  obtain ⟨i, hi, rfl⟩ := List.getElem_of_mem hx
  exact (h2 i hi (by omega)).1
 ·rintro ⟨h1, h2, h3⟩
  exact ⟨h1, fun i hi _ => ⟨h2 _ (List.getElem_mem hi), fun h0 => List.pairwise_iff_getElem.1 h3 (i - 1) i (by omega) hi (by omega)⟩⟩
end Go.Proofs.Ytjccgdnnnlgeeaa.XV17
end

section
/- Numbers, names and presences as bytes, in plain functions: what the printed functions that write them answer. -/
namespace Go.Proofs.Ytjccgdnnnlgeeaa.XPut
open Go.RowKit Go.Proofs.YtjccgdnnnlgeeaaW.PrintWords Go.Proofs.YtjccgdnnnlgeeaaW.PrintLast Go.Proofs.YtjccgdnnnlgeeaaW.PrintMore Go.Proofs.Ytjccgdnnnlgeeaa.PA Go.Proofs.Ytjccgdnnnlgeeaa.XVar Go.Proofs.Ytjccgdnnnlgeeaa.XBytes
open Go.Proofs.Ytjccgdnnnlgeeaa.XMay (mayB numsB)
open Go.Proofs.Ytjccgdnnnlgeeaa.XIdent (isB okAt)
open Go.Proofs.Ytjccgdnnnlgeeaa.XOdd (odd)

set_option linter.unusedVariables false
set_option linter.unusedSimpArgs false
theorem putL : ∀ (d k : Nat) (n : Int) (xs : List Int), 0 ≤ n → n < pw (d + 1) → d < k → xs.length + d + 1 < 140737488355328 → varint_Put.l0 k n xs = some (strOfNums (xs ++ digs (d + 1) n))
 | d, 0, n, xs, _, _, hk, _ => by omega
 | d, k + 1, n, xs, h0, h1, hk, hl => by
  rw [varint_Put.l0, digs]
  by_cases c : n ≥ 128
  ·rw [if_pos c, if_pos (by omega), if_pos c, or128]
   cases d with
   | zero =>
    simp only [pw] at h1
    omega
   | succ d =>
    rw [putL d k (n / 128) _ (by omega) (by simp only [pw] at h1 ⊢; omega) (by omega) (by simp only [List.length_append, List.length_singleton]; omega), List.append_assoc, List.singleton_append]
  ·rw [if_neg c, if_pos (by omega), if_neg c, show n % 256 = n by omega]
theorem tdiv128 (n : Int) (h0 : 0 ≤ n) : Int.tdiv n 128 = n / 128 := Int.tdiv_eq_ediv_of_nonneg h0
theorem tmod128 (n : Int) (h0 : 0 ≤ n) : Int.tmod n 128 = n % 128 := Int.tmod_eq_emod_of_nonneg h0
/-- A number's bytes, as a text. -/
def P (n : Int) : ByteArray := strOfNums (digs 10 n)
theorem pw10 : pw 10 = 1180591620717411303424 := by decide
theorem put_f (k : Nat) (n : Int) (h0 : 0 ≤ n) (h1 : n < 18446744073709551616) (hk : 10 ≤ k) : varint_Put.f k n = some (P n) := by
 unfold varint_Put.f P
 rw [putL 9 k n [] h0 (by rw [pw10]; omega) (by omega) (by simp)]
 rfl
theorem P_size (n : Int) : (P n).size = (digs 10 n).length := strOfNums_size _
theorem P_le (n : Int) : (P n).size ≤ 10 := by rw [P_size]; exact digs_len 10 n
theorem P_pos (n : Int) : 1 ≤ (P n).size := by rw [P_size]; exact digs_pos 9 n
theorem text_f (k : Nat) (s : ByteArray) (hs : s.size ≤ 140737488351232) (hk : 10 ≤ k) : varint_Text.f k s = some (P s.size ++ s) := by
 unfold varint_Text.f
 rw [wrap_u64 _ (by omega) (by omega), put_f k _ (by omega) (by omega) hk]
 simp only [Option.bind_some]
 rw [if_pos (by have := P_le s.size; omega)]
def cat : List ByteArray → ByteArray
 | [] => ⟨#[]⟩
 | a :: r => a ++ cat r
theorem nil_app (a : ByteArray) : (⟨#[]⟩ : ByteArray) ++ a = a := ba_ext (by rw [app_data]; rfl)
theorem app_nil (a : ByteArray) : a ++ (⟨#[]⟩ : ByteArray) = a := ba_ext (by rw [app_data]; simp)
theorem cat_app (a b : List ByteArray) : cat (a ++ b) = cat a ++ cat b := by
 induction a with
 | nil => rw [List.nil_append]; exact (nil_app _).symm
 | cons x r ih => rw [List.cons_append, cat, ih, cat, app_assoc]
theorem cat_snoc (l : List ByteArray) (a : ByteArray) : cat (l ++ [a]) = cat l ++ a := by rw [cat_app, cat, cat, app_nil]
theorem cat_size (l : List ByteArray) (B : Nat) (h : ∀ a ∈ l, a.size ≤ B) : (cat l).size ≤ l.length * B := by
 induction l with
 | nil => show (0 : Nat) ≤ _; omega
 | cons x r ih =>
  rw [cat, app_size]
  have h1 := h x (List.mem_cons_self ..)
  have h2 := ih (fun a ha => h a (List.mem_cons_of_mem _ ha))
  rw [List.length_cons, Nat.add_mul]
  omega
def X (s : ByteArray) : ByteArray := P s.size ++ s
theorem X_size (s : ByteArray) : (X s).size = (P s.size).size + s.size := app_size ..
theorem may_nums {a0 a1 a2 : Int} {a3 : ByteArray} (h : mayB a0 a1 a2 a3 = true) : 1 ≤ a0 ∧ a0 ≤ 4 ∧ -128 ≤ a1 ∧ a1 ≤ 127 ∧ 0 ≤ a2 ∧ a2 ≤ 1099511627776 ∧ a3.size ≤ 32 := by
 unfold mayB at h
 by_cases c : numsB a0 a1 a2 a3
 ·exact c
 ·rw [if_neg c] at h; cases h
theorem may_f (a0 a1 a2 : Int) (a3 : ByteArray) : value_May.f a0 a1 a2 a3 = some (mayB a0 a1 a2 a3) := rfl
def Vb (a0 a1 a2 : Int) (a3 : ByteArray) : ByteArray := (strOfNums [a0, a1 + 128] ++ P a2) ++ X a3
theorem Vb_size (a0 a1 a2 : Int) (a3 : ByteArray) : (Vb a0 a1 a2 a3).size = 2 + (P a2).size + ((P a3.size).size + a3.size) := by
 unfold Vb
 rw [app_size, app_size, strOfNums_size, X_size]
 rfl
def PV (a0 a1 a2 : Int) (a3 : ByteArray) : ByteArray × Bool := if mayB a0 a1 a2 a3 = true then (Vb a0 a1 a2 a3, true) else (⟨#[]⟩, false)
theorem put_v (k : Nat) (a0 a1 a2 : Int) (a3 : ByteArray) (hk : 10 ≤ k) : value_Put.f k a0 a1 a2 a3 = some (PV a0 a1 a2 a3) := by
 unfold value_Put.f PV
 rw [may_f]
 simp only [Option.bind_some]
 by_cases c : mayB a0 a1 a2 a3 = true
 ·obtain ⟨h1, h2, h3, h4, h5, h6, h7⟩ := may_nums c
  have hP := P_le a2
  have hP2 := P_le (a3.size : Int)
  rw [if_pos c, if_pos c, wrap_u64 a2 (by omega) (by omega), put_f k a2 (by omega) (by omega) hk, text_f k a3 (by omega) hk, wrap_id (a1 - -128) (by omega) (by omega), Int.emod_eq_of_lt (by omega) (by omega : a0 < 256), Int.emod_eq_of_lt (by omega) (by omega : a1 - -128 < 256)]
  simp only [Option.bind_some]
  rw [if_pos (by rw [strOfNums_size]; simp; omega), if_pos (by rw [app_size, app_size, strOfNums_size]; simp; omega), show a1 - -128 = a1 + 128 by omega]
  rfl
 ·rw [if_neg c, if_neg c]
def nameP (s : ByteArray) : ByteArray × Bool := if isB s = true then (X s, true) else (⟨#[]⟩, false)
theorem isB_size {s : ByteArray} (h : isB s = true) : s.size ≤ 16 := by
 unfold isB at h
 have h2 : decide (0 < s.size ∧ s.size ≤ 16) = true := by cases q : decide (0 < s.size ∧ s.size ≤ 16) <;> simp_all
 exact (of_decide_eq_true h2).2
theorem put_n (k : Nat) (s : ByteArray) (h : s.size ≤ 9223372036854775807) (hk : 10 ≤ k) : ident_Put.f k s = some (nameP s) := by
 unfold ident_Put.f nameP
 have e : ident_Is.f s = some (isB s) := by show XIdent.ident_Is.f s = _; unfold XIdent.ident_Is.f; rw [if_pos h]
 rw [e]
 simp only [Option.bind_some]
 by_cases c : isB s = true
 ·rw [if_pos c, if_pos c, text_f k s (by have := isB_size c; omega) hk]
  rfl
 ·rw [if_neg c, if_neg c]
end Go.Proofs.Ytjccgdnnnlgeeaa.XPut
end

section
/- strings.Builder's methods at this program: the library's contracts, laid by hand where the kit's command leaves them (its structures name types that this program's bodies do not). -/
namespace Go.Proofs.Ytjccgdnnnlgeeaa.XBuilder
open Go.RowKit Go.Shelf Go.Proofs
def ren : Go.Shelf.Ren := ⟨fun | 166 => 66 | 169 => 67 | 240 => 73 | 276 => 78 | n => n, fun | 0 => 0 | 3 => 3 | 4 => 4 | 5 => 5 | 9 => 9 | 20 => 20 | 37 => 40 | 70 => 82 | 72 => 84 | 75 => 86 | 80 => 89 | 127 => 90 | 164 => 95 | n => n, fun | n => n⟩
theorem l166 : Lays.n166 Try.prog ren where
 mixed := by kernel_rfl
 f166 := Try.func66.trans (congrArg some (by kernel_rfl))
 f240 := Try.func73.trans (congrArg some (by kernel_rfl))
 f276 := Try.func78.trans (congrArg some (by kernel_rfl))
 t0 := Try.underlying0
 a0 := Try.isAgg0
 z0 := Try.sizeOf0
 v0 := Try.zeroValue0
 t3 := Try.underlying3
 a3 := Try.isAgg3
 z3 := Try.sizeOf3
 v3 := Try.zeroValue3
 t4 := Try.underlying4
 a4 := Try.isAgg4
 z4 := Try.sizeOf4
 v4 := Try.zeroValue4
 t9 := Try.underlying9
 a9 := Try.isAgg9
 z9 := Try.sizeOf9
 v9 := Try.zeroValue9
 t20 := Try.underlying20
 a20 := Try.isAgg20
 z20 := Try.sizeOf20
 v20 := Try.zeroValue20
 t37 := Try.underlying40
 a37 := Try.isAgg40
 z37 := Try.sizeOf40
 v37 := Try.zeroValue40
 t70 := Try.underlying82
 a70 := Try.isAgg82
 z70 := Try.sizeOf82
 v70 := Try.zeroValue82
 t72 := Try.underlying84
 a72 := Try.isAgg84
 z72 := Try.sizeOf84
 v72 := Try.zeroValue84
 t75 := Try.underlying86
 a75 := Try.isAgg86
 z75 := Try.sizeOf86
 v75 := Try.zeroValue86
 t164 := Try.underlying95
 a164 := Try.isAgg95
 z164 := Try.sizeOf95
 v164 := Try.zeroValue95
theorem l169 : Lays.n169 Try.prog ren where
 mixed := by kernel_rfl
 f169 := Try.func67.trans (congrArg some (by kernel_rfl))
 t0 := Try.underlying0
 a0 := Try.isAgg0
 z0 := Try.sizeOf0
 v0 := Try.zeroValue0
 t3 := Try.underlying3
 a3 := Try.isAgg3
 z3 := Try.sizeOf3
 v3 := Try.zeroValue3
 t9 := Try.underlying9
 a9 := Try.isAgg9
 z9 := Try.sizeOf9
 v9 := Try.zeroValue9
 t37 := Try.underlying40
 a37 := Try.isAgg40
 z37 := Try.sizeOf40
 v37 := Try.zeroValue40
 t70 := Try.underlying82
 a70 := Try.isAgg82
 z70 := Try.sizeOf82
 v70 := Try.zeroValue82
 t72 := Try.underlying84
 a72 := Try.isAgg84
 z72 := Try.sizeOf84
 v72 := Try.zeroValue84
 t127 := Try.underlying90
 a127 := Try.isAgg90
 z127 := Try.sizeOf90
 v127 := Try.zeroValue90
theorem ex : Builder.Extra Try.prog ren where
 sizeBuilder := by kernel_rfl
 liesBuilder := by kernel_rfl
 t5 := Try.underlying5
 a5 := Try.isAgg5
 z5 := Try.sizeOf5
 v5 := Try.zeroValue5
 infoByte := by kernel_rfl
 cellsByte := by kernel_rfl
 sizeByte := by kernel_rfl
 neB5 := by decide
/-- A builder that holds a text. -/
def Bld (B b : Nat) (s : ByteArray) (w : World) : Prop := Lib.IsBuilder 84 5 B b (Lib.strCells s) w
theorem Bld.new (w : World) : Bld w.heap.size w.heap.size ⟨#[]⟩ (w.alloc (.cells #[.pointer none, .slice none 0 0] 84)) := Lib.fresh_isBuilder _ _ w
theorem strCells_app (a b : ByteArray) : Lib.strCells (a ++ b) = Lib.strCells a ++ Lib.strCells b := by
 unfold Lib.strCells
 rw [← List.map_append]
 congr 1
theorem write_calls (B b : Nat) (a s : ByteArray) (w : World) (h : Bld B b a w) (hl : a.size + s.size ≤ 140737488355328) (hB : B ≤ w.heap.size) :
  Calls Try.prog 66 #[.pointer (some ⟨b, 0, none⟩), .string s] w fun e w' => e = .returned (.tuple #[.int .i64 s.size, .nilIface]) ∧ Bld B b (a ++ s) w' ∧ Below B w w' := by
 refine (Any.Builder_WriteString (ρ := ren) l166 ex B b (Lib.strCells a) s w h (by rw [Lib.strCells_length]; exact hl) hB).mono ?_
 rintro e w' ⟨he, hb, hw⟩
 refine ⟨he, ?_, hw⟩
 unfold Bld
 rw [strCells_app]
 exact Or.inr hb
theorem string_calls (B b : Nat) (a : ByteArray) (w : World) (h : Bld B b a w) (hB : B ≤ w.heap.size) :
  Calls Try.prog 67 #[.pointer (some ⟨b, 0, none⟩)] w fun e w' => e = .returned (.string a) ∧ Below B w w' := by
 have h' : Lib.IsBuilder 84 5 B b (Lib.byteCells a.data.toList) w := h
 refine (Any.Builder_String_any (ρ := ren) l169 ex B b a.data.toList w h' hB).mono ?_
 rintro e w' ⟨he, hw⟩
 exact ⟨he, hw⟩
end Go.Proofs.Ytjccgdnnnlgeeaa.XBuilder
end

section
/- digest's Put and Sum, walked, over a table that may be. -/
namespace Go.Proofs.Ytjccgdnnnlgeeaa.XSum
open Go.RowKit Go.Proofs.YtjccgdnnnlgeeaaW.PrintWords Go.Proofs.YtjccgdnnnlgeeaaW.PrintLast Go.Proofs.YtjccgdnnnlgeeaaW.PrintMore Go.Proofs.Ytjccgdnnnlgeeaa.PA Go.Proofs.Ytjccgdnnnlgeeaa.XMem Go.Proofs.Ytjccgdnnnlgeeaa.XPut Go.Proofs.Ytjccgdnnnlgeeaa.XBuilder
open Go.Proofs.Ytjccgdnnnlgeeaa.XMay (mayB numsB)
open Go.Proofs.Ytjccgdnnnlgeeaa.XIdent (isB)
open Go.Proofs.Ytjccgdnnnlgeeaa.XGen (wrap_succ getD_lt drop_get)
set_option linter.unusedVariables false
set_option linter.unusedSimpArgs false
abbrev Se := S52
abbrev kSe : Kd Se := k52
def rowB (x : Se) : ByteArray := (nameP x.f0).1 ++ (PV x.f1.f0 x.f1.f1 x.f1.f2 x.f1.f3).1
def putB (l : List Se) : ByteArray := P (l.length : Int) ++ cat (l.map rowB)
theorem rowB_size (x : Se) : (nameP x.f0).1.size ≤ 26 ∧ (PV x.f1.f0 x.f1.f1 x.f1.f2 x.f1.f3).1.size ≤ 60 := by
 constructor
 ·unfold nameP
  split
  ·rename_i h
   have h1 := isB_size h
   have h2 := P_le (x.f0.size : Int)
   rw [X_size]
   omega
  ·exact Nat.zero_le _
 ·unfold PV
  split
  ·rename_i h
   obtain ⟨_, _, _, _, _, _, h7⟩ := may_nums h
   have h1 := P_le x.f1.f2
   have h2 := P_le (x.f1.f3.size : Int)
   rw [Vb_size]
   omega
  ·exact Nat.zero_le _
theorem putB_size (l : List Se) (n : Nat) : (P (n : Int) ++ cat (l.map rowB)).size ≤ 10 + 86 * l.length := by
 rw [XBytes.app_size]
 have h1 := P_le (n : Int)
 have h2 := cat_size (l.map rowB) 86 (fun a ha => by
  obtain ⟨x, _, rfl⟩ := List.mem_map.1 ha
  unfold rowB
  rw [XBytes.app_size]
  have := rowB_size x
  omega)
 rw [List.length_map] at h2
 omega
theorem bld_below {B b : Nat} {s : ByteArray} {w w' : World} (h : Bld B b s w) (hb : Below w.heap.size w w') : Bld B b s w' := by
 rcases h with ⟨h1, v, h2, h3, h4⟩ | ⟨h1, v, h2, h3, h4⟩
 ·exact .inl ⟨h1, v, blk_below h2 hb, pw_own_below h3 hb, h4⟩
 ·exact .inr ⟨h1, v, blk_below h2 hb, pw_own_below h3 hb, h4⟩
theorem rd_at (l : List Se) (j : Nat) (h : j < l.length) : rd_T52 l (j : Int) = l[j] := by
 unfold rd_T52
 rw [Int.toNat_natCast, getD_lt l _ j h]
set_option maxHeartbeats 4000000 in
set_option maxRecDepth 100000 in
theorem put_calls (k0 : Nat) (l : List Se) (hl : l.length ≤ 40) (hm : digest_May.f k0 l = some true) (hz : ∀ x ∈ l, x.f0.size ≤ 9223372036854775807) (w : World) (v : Value) (h : Im kSe w v l) :
  Calls Try.prog 54 #[v] w fun e w' => e = .returned (.tuple #[.string (putB l), .bool true]) ∧ Below w.heap.size w w' := by
 obtain ⟨A, c, rfl, hc, hC⟩ := h.slice
 have HM := Aside0.mk (digest_May.calls k0 A c l true w hC hc hm)
 have HP := Aside0.mk (fun w => varint_Put.calls 20 (l.length : Int) (P (l.length : Int)) w (put_f 20 _ (by omega) (by omega) (by omega)))
 have HZ := Aside0.mk hz
 have HC := Aside0.mk hC
 have hl' : (l.length : Int) ≤ 40 := by omega
 have hu : IntKind.u64.wrap (l.length : Int) = (l.length : Int) := XVar.wrap_u64 _ (by omega) (by omega)
 clear hm hz h hC hc
 go_enter Try.func54, Try.ntmps54
 have HB : Below w.heap.size w w := Below.refl _ _
 go_wp2_with fail
 refine HM.out.mono ?_
 rintro e w1 ⟨rfl, hb⟩
 replace HB := below_step HB hb
 clear hb HM
 have hwz : w.heap.size ≤ w1.heap.size := HB.size
 go_upto_region 4 with (fail)
 generalize hg : World.alloc _ _ = w2
 have hbl : Bld w1.heap.size w1.heap.size ⟨#[]⟩ w2 := by rw [← hg]; exact Bld.new w1
 have hba := al_below hg
 have hz2 := hba.size
 replace HB := below_step HB hba
 clear hg hba
 generalize w1.heap.size = p at hbl hz2 hwz ⊢
 go_wp2_with fail
 refine (HP.out w2).mono ?_
 rintro e w3 ⟨rfl, hb⟩
 replace HB := below_step HB hb
 replace hbl := bld_below hbl hb
 have hz3 := Nat.le_trans hz2 hb.size
 clear hb HP hz2
 go_wp2_with fail
 refine (write_calls p p _ _ w3 hbl (by have := P_le (l.length : Int); show 0 + _ ≤ _; omega) hz3).mono ?_
 rintro e w4 ⟨rfl, hbl4, hb⟩
 rw [nil_app] at hbl4
 replace HB := HB.trans (hb.mono hwz)
 have hz4 := Nat.le_trans hz3 hb.size
 clear hb hbl hz3
 have HL := Aside0.mk (show Bld p p (P (l.length : Int) ++ cat ((l.take 0).map rowB)) w4 by rw [List.take_zero]; show Bld p p (_ ++ (⟨#[]⟩ : ByteArray)) w4; rw [app_nil]; exact hbl4)
 have HBr := Aside0.mk HB
 have HZr := Aside0.mk hz4
 clear hbl4 HB hz4
 go_wp2
 go_loopw [21] (fun x wr => ∃ k : Nat, x = .int .i64 k ∧ k ≤ l.length ∧ Aside0 (Bld p p (P (l.length : Int) ++ cat ((l.take k).map rowB)) wr) ∧ Aside0 (Below w.heap.size w wr) ∧ Aside0 (p ≤ wr.heap.size)) (fun x _ => l.length - (intOf x).toNat)
 case atStart => exact ⟨0, rfl, Nat.zero_le _, HL, HBr, HZr⟩
 case round =>
  clear HL HBr HZr
  obtain ⟨k, rfl, hk, hbl, hbr, hzr⟩ := hrel
  have k0 : (0 : Int) ≤ (k : Int) := by omega
  have k1 : (k : Int) ≤ 40 := by omega
  by_cases hlt : k < l.length
  ·have k2 : (k : Int) < (l.length : Int) := by omega
   obtain ⟨ad, he, h0, h1, h2, h3, h4⟩ := at_T52 (Kd.C_below HC.out hbr.out) (k : Int) (by omega) (by omega)
   subst he
   rw [Int.toNat_natCast] at h0 h1 h2 h3 h4
   rw [rd_at l k hlt] at h0 h1 h2 h3 h4
   have hx := HZ.out l[k] (List.getElem_mem hlt)
   have hnp := put_n 20 l[k].f0 hx (by omega)
   have hvp := put_v 20 l[k].f1.f0 l[k].f1.f1 l[k].f1.f2 l[k].f1.f3 (by omega)
   have hrow : P (l.length : Int) ++ cat ((l.take (k + 1)).map rowB) = (P (l.length : Int) ++ cat ((l.take k).map rowB)) ++ ((nameP l[k].f0).1 ++ (PV l[k].f1.f0 l[k].f1.f1 l[k].f1.f2 l[k].f1.f3).1) := by
    rw [List.take_succ_eq_append_getElem hlt, List.map_append, cat_app, XBytes.app_assoc]
    show _ ++ (_ ++ (rowB l[k] ++ (⟨#[]⟩ : ByteArray))) = _
    rw [app_nil]
    rfl
   have hs1 := rowB_size l[k]
   have hs2 := putB_size (l.take k) l.length
   rw [List.length_take] at hs2
   have HR := Aside0.mk hrow
   generalize l[k] = x at h0 h1 h2 h3 h4 hnp hvp HR hs1
   rcases hnq : nameP x.f0 with ⟨n1, n2⟩
   rcases hvq : PV x.f1.f0 x.f1.f1 x.f1.f2 x.f1.f3 with ⟨v1, v2⟩
   rw [hnq] at hnp HR hs1
   rw [hvq] at hvp HR hs1
   have HN := Aside0.mk (fun w => ident_Put.calls 20 x.f0 n1 n2 w hnp)
   have HV := Aside0.mk (fun w => value_Put.calls 20 x.f1.f0 x.f1.f1 x.f1.f2 x.f1.f3 v1 v2 w hvp)
   have hsz : n1.size + v1.size ≤ 90 := by have := hs1.1; have := hs1.2; simp only at *; omega
   have hsz' : (n1.size : Int) + (v1.size : Int) ≤ 90 := by omega
   have HS2 := Aside0.mk hs2
   clear hnq hvq hnp hvp hs1 hs2 hx hrow
   go_upto_region 8 with (fail)
   generalize hg : World.alloc _ _ = w5
   have hba := al_below hg
   have T6 := al_new hg
   have HB := below_step hbr.out hba
   have hb5 := bld_below hbl.out hba
   have hz5 := Nat.le_trans hzr.out hba.size
   clear hg hba hbr hbl hzr h0 h1 h2 h3 h4
   generalize wr.heap.size = p6 at T6 ⊢
   have r0 := (blk_cell T6 0).trans rfl
   have r1 := (blk_cell T6 1).trans rfl
   have r2 := (blk_cell T6 2).trans rfl
   have r3 := (blk_cell T6 3).trans rfl
   have r4 := (blk_cell T6 4).trans rfl
   go_wp2_with fail
   refine (HN.out w5).mono ?_
   rintro e w6 ⟨rfl, hb⟩
   replace HB := below_step HB hb
   replace hb5 := bld_below hb5 hb
   replace hz5 := Nat.le_trans hz5 hb.size
   replace r1 := pw_cell_below hb r1
   replace r2 := pw_cell_below hb r2
   replace r3 := pw_cell_below hb r3
   replace r4 := pw_cell_below hb r4
   clear hb HN r0 T6
   go_wp2_with fail
   refine (HV.out w6).mono ?_
   rintro e w7 ⟨rfl, hb⟩
   replace HB := below_step HB hb
   replace hb5 := bld_below hb5 hb
   replace hz5 := Nat.le_trans hz5 hb.size
   clear hb HV r1 r2 r3 r4
   go_wp2_with fail
   refine (write_calls p p _ (n1 ++ v1) w7 hb5 (by have := HS2.out; have : (n1 ++ v1).size = n1.size + v1.size := XBytes.app_size ..; omega) hz5).mono ?_
   rintro e w8 ⟨rfl, hbl8, hb⟩
   rw [← HR.out] at hbl8
   have HL := Aside0.mk hbl8
   have HBr := Aside0.mk (HB.trans (hb.mono hwz))
   have HZr := Aside0.mk (Nat.le_trans hz5 hb.size)
   clear hb hbl8 HB hb5 hz5 HS2
   go_wp2
   go_roundw
   case rel => exact ⟨k + 1, by go_num, by omega, HL, HBr, HZr⟩
   case measure => simp [intOf]; omega
  ·obtain rfl : k = l.length := by omega
   have k2 : (l.length : Int) ≤ (l.length : Int) := by omega
   have hb5 := hbl.out
   rw [List.take_length] at hb5
   have HB := hbr.out
   have hz5 := hzr.out
   clear hbl hbr hzr
   go_wp2_with fail
   refine (string_calls p p (putB l) wr hb5 hz5).mono ?_
   rintro e w8 ⟨rfl, hb⟩
   go_wp2
   go_ret2
   exact ⟨rfl, HB.trans (hb.mono hwz)⟩
end Go.Proofs.Ytjccgdnnnlgeeaa.XSum
end

section
-- Written by a program of this session (wip/tools/xprint.py), which drives the kit's print.
namespace Go.Proofs.Ytjccgdnnnlgeeaa.PA
open Go.RowKit Go.Proofs.YtjccgdnnnlgeeaaW.PrintWords Go.Proofs.YtjccgdnnnlgeeaaW.PrintLast Go.Proofs.YtjccgdnnnlgeeaaW.PrintMore
attribute [local go_sem] min2_int min_two   -- for this text's walks alone
set_option linter.unusedVariables false
set_option linter.unusedSimpArgs false

/-! ### varint_Take: function 71 -/
def varint_Take.j0 : Nat → ByteArray → Int → Int → Bool → Option (ByteArray × Int × Int)
 | 0, _, _, _, _ => none
 | k + 1, x0, x9, x10, x24 => if x24 = true then (some ((⟨#[]⟩ : ByteArray), 0, 3)) else (if x9 > (IntKind.u64.wrap (wrap64 ((x0.size : Int) - x10))) then (some ((⟨#[]⟩ : ByteArray), 0, 2)) else (if 0 ≤ x10 then (if x10 ≤ (wrap64 (x10 + (wrap64 (x9)))) then (if (wrap64 (x10 + (wrap64 (x9)))) ≤ (x0.size : Int) then (some (x0.extract (x10 : Int).toNat ((wrap64 (x10 + (wrap64 (x9)))) : Int).toNat, wrap64 (x10 + (wrap64 (x9))), 0)) else (none)) else (none)) else (none)))
def varint_Take.f (k : Nat) (a0 : ByteArray) (a1 : Int) (a2 : Int) : Option (ByteArray × Int × Int) := (varint_Get.f a0 a1).bind fun bt131 => (if bt131.2.2 = 0 then (if a2 < 0 then (varint_Take.j0 k a0 bt131.1 bt131.2.1 true) else (varint_Take.j0 k a0 bt131.1 bt131.2.1 (decide (bt131.1 > (IntKind.u64.wrap (a2)))))) else (some ((⟨#[]⟩ : ByteArray), 0, bt131.2.2)))
set_option maxHeartbeats 8000000 in
set_option maxRecDepth 100000 in
theorem varint_Take.calls (k : Nat) (a0 : ByteArray) (a1 : Int) (a2 : Int) (r1 : ByteArray) (r2 : Int) (r3 : Int) (w : World) (h : varint_Take.f k a0 a1 a2 = some (r1, r2, r3)) :
  Calls Try.prog 71 #[.string a0, .int .i64 a1, .int .i64 a2] w fun e w' => e = .returned (.tuple #[.string r1, .int .i64 r2, .int .i64 r3]) ∧ Drawn0 w w' := by
 have H : ((varint_Get.f a0 a1).bind fun bt131 => (if bt131.2.2 = 0 then (if a2 < 0 then (varint_Take.j0 k a0 bt131.1 bt131.2.1 true) else (varint_Take.j0 k a0 bt131.1 bt131.2.1 (decide (bt131.1 > (IntKind.u64.wrap (a2)))))) else (some ((⟨#[]⟩ : ByteArray), 0, bt131.2.2)))) = some (r1, r2, r3) := h
 clear h
 replace H := Option.bind_eq_some_iff.mp H
 obtain ⟨⟨t131, t132, t133⟩, A40, H⟩ := H
 replace H : (if t133 = 0 then (if a2 < 0 then (varint_Take.j0 k a0 t131 t132 true) else (varint_Take.j0 k a0 t131 t132 (decide (t131 > (IntKind.u64.wrap (a2)))))) else (some ((⟨#[]⟩ : ByteArray), 0, t133))) = some (r1, r2, r3) := H
 have A4 := Aside0.mk A40
 clear A40
 by_cases c5 : t133 = 0
 ·rw [if_pos c5] at H
  have c5b0 : (t133 == 0) = true := beq_iff_eq.mpr c5
  have c5b1 : (t133 != 0) = false := bne_eq_false_iff_eq.mpr c5
  clear c5
  have HC6 := Aside0.mk H
  clear H
  go_enter Try.func71, Try.ntmps71
  go_upto_region 4 with (first | ((with_reducible refine gate_callee (f := 42) rfl ?_); refine goesL_ (some 16) rfl rfl Try.func42 (by kernel_rfl) rfl #[.string a0, .int .i64 a1] rfl (by (try simp only [List.map_toArray, List.map_cons, List.map_nil]); first | done | rfl | (simp only [List.length_drop, List.length_take]; rfl)) ?_; (with_reducible refine (varint_Get.calls a0 a1 t131 t132 t133 _ A4.out).mono ?_); rintro e w' ⟨rfl, ⟨nd, rfl⟩⟩; refine ⟨_, rfl, ?_⟩))
  (try simp only [Act.put, List.setIfInBounds_toArray, List.set_cons_zero, List.set_cons_succ])
  go_cut [24] (fun v24 wc => ∃ (kq : Nat) (x24_5 : Bool), v24 = .bool x24_5 ∧ Aside0 (varint_Take.j0 kq a0 t131 t132 x24_5 = some (r1, r2, r3)) ∧ Aside0 (kq ≤ k) ∧ Drawn0 w wc)
  case first =>
   have H := HC6.out
   clear HC6
   by_cases c7 : a2 < 0
   ·rw [if_pos c7] at H
    have c7b0 : decide (a2 < 0) = true := decide_eq_true c7
    clear c7
    (first | rw [c7b0] | (simp only [i64_w, i32_w]; rw [c7b0]) | skip)
    have H' := Aside0.mk H
    clear H
    go_wp2
    go_meet
    case rel => exact ⟨_, (true), (by first | rfl | (simp; done) | (simp [*]; done)), H', ⟨by first | omega | exact Nat.le_refl _⟩, by repeat (first | exact Drawn0.refl _ | apply Drawn0.step)⟩
   ·rw [if_neg c7] at H
    have c7b0 : decide (a2 < 0) = false := decide_eq_false c7
    clear c7
    (first | rw [c7b0] | (simp only [i64_w, i32_w]; rw [c7b0]) | skip)
    have H' := Aside0.mk H
    clear H
    go_wp2
    go_meet
    case rel => exact ⟨_, (decide (t131 > (IntKind.u64.wrap (a2)))), (by first | rfl | (simp; done) | (simp [*]; done)), H', ⟨by first | omega | exact Nat.le_refl _⟩, by repeat (first | exact Drawn0.refl _ | apply Drawn0.step)⟩
  case rest =>
   clear HC6
   try clear p2
   try clear c4
   try clear c5
   try clear c5b0
   try clear c5b1
   try clear c7
   try clear c7b0
   obtain ⟨kq, x24_5, rfl, HA, HJ5, ⟨mc5, rfl⟩⟩ := hcut
   cases kq with
   | zero => exact absurd HA.out (by simp [varint_Take.j0])
   | succ kj5 =>
    have H := HA.out
    clear HA
    simp only [varint_Take.j0] at H
    by_cases c8 : x24_5 = true
    ·subst c8
     have H1 : (some ((⟨#[]⟩ : ByteArray), 0, 3)) = some (r1, r2, r3) := by rw [if_pos rfl] at H; exact H
     clear H
     have H := H1
     clear H1
     simp only [Option.some.injEq, Prod.mk.injEq] at H
     obtain ⟨rfl, rfl, rfl⟩ := H
     go_wp2
     go_ret3
     exact ⟨by first | rfl | (simp; done) | (simp [*]; done), by repeat (first | exact Drawn0.refl _ | apply Drawn0.step)⟩
    ·replace c8 := Bool.eq_false_iff.mpr c8
     subst c8
     have H1 : (if t131 > (IntKind.u64.wrap (wrap64 ((a0.size : Int) - t132))) then (some ((⟨#[]⟩ : ByteArray), 0, 2)) else (if 0 ≤ t132 then (if t132 ≤ (wrap64 (t132 + (wrap64 (t131)))) then (if (wrap64 (t132 + (wrap64 (t131)))) ≤ (a0.size : Int) then (some (a0.extract (t132 : Int).toNat ((wrap64 (t132 + (wrap64 (t131)))) : Int).toNat, wrap64 (t132 + (wrap64 (t131))), 0)) else (none)) else (none)) else (none))) = some (r1, r2, r3) := by rw [if_neg (show ¬ (false = true) by decide)] at H; exact H
     clear H
     have H := H1
     clear H1
     by_cases c9 : t131 > (IntKind.u64.wrap (wrap64 ((a0.size : Int) - t132)))
     ·rw [if_pos c9] at H
      have c9b0 : decide ((IntKind.u64.wrap (wrap64 ((a0.size : Int) - t132))) < t131) = true := decide_eq_true c9
      clear c9
      simp only [Option.some.injEq, Prod.mk.injEq] at H
      obtain ⟨rfl, rfl, rfl⟩ := H
      go_wp2
      go_ret3
      exact ⟨by first | rfl | (simp; done) | (simp [*]; done), by repeat (first | exact Drawn0.refl _ | apply Drawn0.step)⟩
     ·rw [if_neg c9] at H
      have c9b0 : decide ((IntKind.u64.wrap (wrap64 ((a0.size : Int) - t132))) < t131) = false := decide_eq_false c9
      clear c9
      by_cases c10 : 0 ≤ t132
      ·rw [if_pos c10] at H
       have c10b0 := eq_true c10
       have c10b1 : decide (0 ≤ t132) = true := decide_eq_true c10
       clear c10
       by_cases c11 : t132 ≤ (wrap64 (t132 + (wrap64 (t131))))
       ·rw [if_pos c11] at H
        have c11b0 := eq_true c11
        have c11b1 : decide (t132 ≤ (wrap64 (t132 + (wrap64 (t131))))) = true := decide_eq_true c11
        by_cases c12 : (wrap64 (t132 + (wrap64 (t131)))) ≤ (a0.size : Int)
        ·rw [if_pos c12] at H
         have c12b0 := eq_true c12
         have c12b1 : decide ((wrap64 (t132 + (wrap64 (t131)))) ≤ (a0.size : Int)) = true := decide_eq_true c12
         simp only [Option.some.injEq, Prod.mk.injEq] at H
         obtain ⟨rfl, rfl, rfl⟩ := H
         go_wp2
         go_ret3
         exact ⟨by first | rfl | (simp; done) | (simp [*]; done), by repeat (first | exact Drawn0.refl _ | apply Drawn0.step)⟩
        ·rw [if_neg c12] at H
         exact absurd H (by simp)
       ·rw [if_neg c11] at H
        exact absurd H (by simp)
      ·rw [if_neg c10] at H
       exact absurd H (by simp)
 ·rw [if_neg c5] at H
  have c5b0 : (t133 == 0) = false := beq_eq_false_iff_ne.mpr c5
  have c5b1 : (t133 != 0) = true := bne_iff_ne.mpr c5
  simp only [Option.some.injEq, Prod.mk.injEq] at H
  obtain ⟨rfl, rfl, rfl⟩ := H
  go_enter Try.func71, Try.ntmps71
  go_wp2_with (first | ((with_reducible refine gate_callee (f := 42) rfl ?_); refine goesL_ (some 16) rfl rfl Try.func42 (by kernel_rfl) rfl #[.string a0, .int .i64 a1] rfl (by (try simp only [List.map_toArray, List.map_cons, List.map_nil]); first | done | rfl | (simp only [List.length_drop, List.length_take]; rfl)) ?_; (with_reducible refine (varint_Get.calls a0 a1 t131 t132 t133 _ A4.out).mono ?_); rintro e w' ⟨rfl, ⟨nd, rfl⟩⟩; refine ⟨_, rfl, ?_⟩))
  go_ret3
  exact ⟨by first | rfl | (simp; done) | (simp [*]; done), by repeat (first | exact Drawn0.refl _ | apply Drawn0.step)⟩

/-! ### ident_Take: function 63 -/
def ident_Take.f (k : Nat) (a0 : ByteArray) (a1 : Int) : Option (ByteArray × Int × Int) := (varint_Take.f k a0 a1 16).bind fun bt134 => (if bt134.2.2 = 0 then ((ident_Is.f bt134.1).bind fun t137 => (if t137 = true then (some (bt134.1, bt134.2.1, 0)) else (some ((⟨#[]⟩ : ByteArray), 0, 3)))) else (some ((⟨#[]⟩ : ByteArray), 0, bt134.2.2)))
set_option maxHeartbeats 8000000 in
set_option maxRecDepth 100000 in
theorem ident_Take.calls (k : Nat) (a0 : ByteArray) (a1 : Int) (r1 : ByteArray) (r2 : Int) (r3 : Int) (w : World) (h : ident_Take.f k a0 a1 = some (r1, r2, r3)) :
  Calls Try.prog 63 #[.string a0, .int .i64 a1] w fun e w' => e = .returned (.tuple #[.string r1, .int .i64 r2, .int .i64 r3]) ∧ Below w.heap.size w w' := by
 have HB := Aside0.mk (Below.refl w.heap.size w)
 have H : ((varint_Take.f k a0 a1 16).bind fun bt134 => (if bt134.2.2 = 0 then ((ident_Is.f bt134.1).bind fun t137 => (if t137 = true then (some (bt134.1, bt134.2.1, 0)) else (some ((⟨#[]⟩ : ByteArray), 0, 3)))) else (some ((⟨#[]⟩ : ByteArray), 0, bt134.2.2)))) = some (r1, r2, r3) := h
 clear h
 replace H := Option.bind_eq_some_iff.mp H
 obtain ⟨⟨t134, t135, t136⟩, A30, H⟩ := H
 replace H : (if t136 = 0 then ((ident_Is.f t134).bind fun t137 => (if t137 = true then (some (t134, t135, 0)) else (some ((⟨#[]⟩ : ByteArray), 0, 3)))) else (some ((⟨#[]⟩ : ByteArray), 0, t136))) = some (r1, r2, r3) := H
 have A3 := Aside0.mk A30
 clear A30
 by_cases c4 : t136 = 0
 ·rw [if_pos c4] at H
  have c4b0 : (t136 == 0) = true := beq_iff_eq.mpr c4
  have c4b1 : (t136 != 0) = false := bne_eq_false_iff_eq.mpr c4
  clear c4
  replace H := Option.bind_eq_some_iff.mp H
  obtain ⟨t137, A50, H⟩ := H
  replace H : (if t137 = true then (some (t134, t135, 0)) else (some ((⟨#[]⟩ : ByteArray), 0, 3))) = some (r1, r2, r3) := H
  have A5 := Aside0.mk A50
  clear A50
  by_cases c6 : t137 = true
  ·subst c6
   have H1 : (some (t134, t135, 0)) = some (r1, r2, r3) := by rw [if_pos rfl] at H; exact H
   clear H
   have H := H1
   clear H1
   simp only [Option.some.injEq, Prod.mk.injEq] at H
   obtain ⟨rfl, rfl, rfl⟩ := H
   go_enter Try.func63, Try.ntmps63
   go_wp2_with (first | ((with_reducible refine gate_callee (f := 71) rfl ?_); refine goesL_ (some 13) rfl rfl Try.func71 (by kernel_rfl) rfl #[.string a0, .int .i64 a1, .int .i64 16] rfl (by (try simp only [List.map_toArray, List.map_cons, List.map_nil]); first | done | rfl | (simp only [List.length_drop, List.length_take]; rfl)) ?_; (with_reducible refine (varint_Take.calls k a0 a1 16 t134 t135 t136 _ A3.out).mono ?_); rintro e w' ⟨rfl, ⟨nd, rfl⟩⟩; refine ⟨_, rfl, ?_⟩) | ((with_reducible refine gate_callee (f := 68) rfl ?_); refine goesL_ (some 23) rfl rfl Try.func68 (by kernel_rfl) rfl #[.string t134] rfl (by (try simp only [List.map_toArray, List.map_cons, List.map_nil]); first | done | rfl | (simp only [List.length_drop, List.length_take]; rfl)) ?_; (with_reducible refine (ident_Is.calls t134 true _ A5.out).mono ?_); rintro e w7 ⟨rfl, hb⟩; refine ⟨_, rfl, ?_⟩; replace HB := Aside0.mk (below_step (hS HB.out) hb); (try clear hb); (try clear hb2); (try clear hk); (try clear hi)))
   go_ret3
   exact ⟨by first | rfl | (simp [errW_none, errW_some] <;> rfl) | (simp [*, errW_none, errW_some] <;> rfl), by repeat (first | (with_reducible first | exact HB.out | apply below_alloc | apply pw_below_drewN | apply below_drew1) | exact HB.out)⟩
  ·replace c6 := Bool.eq_false_iff.mpr c6
   subst c6
   have H1 : (some ((⟨#[]⟩ : ByteArray), 0, 3)) = some (r1, r2, r3) := by rw [if_neg (show ¬ (false = true) by decide)] at H; exact H
   clear H
   have H := H1
   clear H1
   simp only [Option.some.injEq, Prod.mk.injEq] at H
   obtain ⟨rfl, rfl, rfl⟩ := H
   go_enter Try.func63, Try.ntmps63
   go_wp2_with (first | ((with_reducible refine gate_callee (f := 71) rfl ?_); refine goesL_ (some 13) rfl rfl Try.func71 (by kernel_rfl) rfl #[.string a0, .int .i64 a1, .int .i64 16] rfl (by (try simp only [List.map_toArray, List.map_cons, List.map_nil]); first | done | rfl | (simp only [List.length_drop, List.length_take]; rfl)) ?_; (with_reducible refine (varint_Take.calls k a0 a1 16 t134 t135 t136 _ A3.out).mono ?_); rintro e w' ⟨rfl, ⟨nd, rfl⟩⟩; refine ⟨_, rfl, ?_⟩) | ((with_reducible refine gate_callee (f := 68) rfl ?_); refine goesL_ (some 23) rfl rfl Try.func68 (by kernel_rfl) rfl #[.string t134] rfl (by (try simp only [List.map_toArray, List.map_cons, List.map_nil]); first | done | rfl | (simp only [List.length_drop, List.length_take]; rfl)) ?_; (with_reducible refine (ident_Is.calls t134 false _ A5.out).mono ?_); rintro e w8 ⟨rfl, hb⟩; refine ⟨_, rfl, ?_⟩; replace HB := Aside0.mk (below_step (hS HB.out) hb); (try clear hb); (try clear hb2); (try clear hk); (try clear hi)))
   go_ret3
   exact ⟨by first | rfl | (simp [errW_none, errW_some] <;> rfl) | (simp [*, errW_none, errW_some] <;> rfl), by repeat (first | (with_reducible first | exact HB.out | apply below_alloc | apply pw_below_drewN | apply below_drew1) | exact HB.out)⟩
 ·rw [if_neg c4] at H
  have c4b0 : (t136 == 0) = false := beq_eq_false_iff_ne.mpr c4
  have c4b1 : (t136 != 0) = true := bne_iff_ne.mpr c4
  simp only [Option.some.injEq, Prod.mk.injEq] at H
  obtain ⟨rfl, rfl, rfl⟩ := H
  go_enter Try.func63, Try.ntmps63
  go_wp2_with (first | ((with_reducible refine gate_callee (f := 71) rfl ?_); refine goesL_ (some 13) rfl rfl Try.func71 (by kernel_rfl) rfl #[.string a0, .int .i64 a1, .int .i64 16] rfl (by (try simp only [List.map_toArray, List.map_cons, List.map_nil]); first | done | rfl | (simp only [List.length_drop, List.length_take]; rfl)) ?_; (with_reducible refine (varint_Take.calls k a0 a1 16 t134 t135 t136 _ A3.out).mono ?_); rintro e w' ⟨rfl, ⟨nd, rfl⟩⟩; refine ⟨_, rfl, ?_⟩))
  go_ret3
  exact ⟨by first | rfl | (simp [errW_none, errW_some] <;> rfl) | (simp [*, errW_none, errW_some] <;> rfl), by repeat (first | (with_reducible first | exact HB.out | apply below_alloc | apply pw_below_drewN | apply below_drew1) | exact HB.out)⟩

/-! ### value_Take: function 64 -/
def value_Take.j0 : Nat → ByteArray → Int → Bool → Option (Int × Int × Int × ByteArray × Int × Int)
 | 0, _, _, _ => none
 | k + 1, x0, x1, x13 => if x13 = true then (some (0, 0, 0, (⟨#[]⟩ : ByteArray), 0, 1)) else (if (wrap64 ((x0.size : Int) - x1)) < 2 then (some (0, 0, 0, (⟨#[]⟩ : ByteArray), 0, 2)) else ((varint_Get.f x0 (wrap64 (x1 + 2))).bind fun bt139 => (if bt139.2.2 = 0 then ((varint_Take.f k x0 bt139.2.1 32).bind fun bt142 => (if bt142.2.2 = 0 then (if 0 ≤ x1 then (if x1 < (x0.size : Int) then (if 0 ≤ (wrap64 (x1 + 1)) then (if (wrap64 (x1 + 1)) < (x0.size : Int) then ((value_May.f (wrap64 (bt x0 x1)) (wrap64 ((wrap64 (bt x0 (wrap64 (x1 + 1)))) + (-128))) (wrap64 (mn bt139.1 1099511627777)) bt142.1).bind fun t146 => (if t146 = true then (some (wrap64 (bt x0 x1), wrap64 ((wrap64 (bt x0 (wrap64 (x1 + 1)))) + (-128)), wrap64 (mn bt139.1 1099511627777), bt142.1, bt142.2.1, 0)) else (some (0, 0, 0, (⟨#[]⟩ : ByteArray), 0, 3)))) else (none)) else (none)) else (none)) else (none)) else (some (0, 0, 0, (⟨#[]⟩ : ByteArray), 0, bt142.2.2)))) else (some (0, 0, 0, (⟨#[]⟩ : ByteArray), 0, bt139.2.2)))))
def value_Take.f (k : Nat) (a0 : ByteArray) (a1 : Int) : Option (Int × Int × Int × ByteArray × Int × Int) := if a1 < 0 then (value_Take.j0 k a0 a1 true) else (value_Take.j0 k a0 a1 (decide (a1 > (a0.size : Int))))
def value_Take.T11 : Bool × List (List Nat × List Nat) := (true, [([], []), ([], []), ([0, 1], [0, 1]), ([2], [2]), ([], []), ([], []), ([5], [5]), ([4, 6], [4, 6]), ([7], [7]), ([8], [8]), ([], []), ([10], [10]), ([11], [11]), ([], []), ([3, 9, 12, 13], [3, 9, 12, 13]), ([], []), ([15, 14, 0, 1, 2, 3, 4, 5, 6, 7, 8, 9, 10, 11, 12, 13, 14, 15], [14, 15])])
def value_Take.B11 : List Nat := [0, 0, 3, 7, 0, 0, 32, 112, 240, 496, 0, 1024, 3072, 0, 16383, 0, 65535]
theorem value_Take.tab11 : rtab .any (opsOf Try.f64 11) = value_Take.T11 := by kernel_rfl
theorem value_Take.bits11 : waitsOk value_Take.T11.2 value_Take.B11 = true := by kernel_rfl
set_option maxHeartbeats 8000000 in
set_option maxRecDepth 100000 in
theorem value_Take.calls (k : Nat) (a0 : ByteArray) (a1 : Int) (r1 : Int) (r2 : Int) (r3 : Int) (r4 : ByteArray) (r5 : Int) (r6 : Int) (w : World) (h : value_Take.f k a0 a1 = some (r1, r2, r3, r4, r5, r6)) :
  Calls Try.prog 64 #[.string a0, .int .i64 a1] w fun e w' => e = .returned (.tuple #[.agg #[.int .i64 r1, .int .i64 r2, .int .i64 r3, .string r4], .int .i64 r5, .int .i64 r6]) ∧ Below w.heap.size w w' := by
 have hu23 := Try.underlying23
 have HB := Aside0.mk (Below.refl w.heap.size w)
 have H : (if a1 < 0 then (value_Take.j0 k a0 a1 true) else (value_Take.j0 k a0 a1 (decide (a1 > (a0.size : Int))))) = some (r1, r2, r3, r4, r5, r6) := h
 clear h
 have HC3 := Aside0.mk H
 clear H
 go_enter Try.func64, Try.ntmps64
 go_upto_region 1 with (first | ((with_reducible refine gate_dst (N := 4) rfl ?_); (try (refine gate_guard (by rfl) ?_; dsimp only)); refine box_event ?hg (N := 4) ?hd (cs := #[.int .i64 0, .int .i64 0, .int .i64 0, .string (⟨#[]⟩ : ByteArray)]) (t := 23) ?hr ?_; (case hd => rfl); (case hg => rfl); (case hr => first | (go_simp; done) | (go_simp; rfl)); intro gb138 hg w4 hbox hb; have BK138 := Aside0.mk (hbox); have GW138 := Aside0.mk ((by rw [hg]; exact (below_size (hS HB.out)) : w.heap.size ≤ gb138)); have GE138 := Aside0.mk ((by rw [hg]; exact (below_size (hS HB.out)) : w.heap.size ≤ gb138)); replace HB := Aside0.mk (below_step (hS HB.out) hb); clear hb hbox hg))
 (try simp only [Act.put, List.setIfInBounds_toArray, List.set_cons_zero, List.set_cons_succ])
 go_cut [13] (fun v13 wc => ∃ (kq : Nat) (x13_2 : Bool), v13 = .bool x13_2 ∧ Aside0 (value_Take.j0 kq a0 a1 x13_2 = some (r1, r2, r3, r4, r5, r6)) ∧ Aside0 (kq ≤ k) ∧ Aside0 (wc.heap[gb138]? = some (.cells #[.int .i64 0, .int .i64 0, .int .i64 0, .string (⟨#[]⟩ : ByteArray)] 23 (0, 0))) ∧ Aside0 (Below w.heap.size w wc))
 case first =>
  have H := HC3.out
  clear HC3
  by_cases c5 : a1 < 0
  ·rw [if_pos c5] at H
   have c5b0 : decide (a1 < 0) = true := decide_eq_true c5
   clear c5
   (first | rw [c5b0] | (simp only [i64_w, i32_w]; rw [c5b0]) | skip)
   have H' := Aside0.mk H
   clear H
   go_wp2
   go_meet
   case rel => exact ⟨_, (true), (by first | rfl | (simp; done) | (simp [*]; done)), H', ⟨by first | omega | exact Nat.le_refl _⟩, ⟨bS BK138.out⟩, ⟨by repeat (first | (with_reducible first | exact HB.out | apply below_alloc | apply pw_below_drewN | apply below_drew1 | refine below_set ?_ GE138.out) | exact HB.out)⟩⟩
  ·rw [if_neg c5] at H
   have c5b0 : decide (a1 < 0) = false := decide_eq_false c5
   clear c5
   (first | rw [c5b0] | (simp only [i64_w, i32_w]; rw [c5b0]) | skip)
   have H' := Aside0.mk H
   clear H
   go_wp2
   go_meet
   case rel => exact ⟨_, (decide (a1 > (a0.size : Int))), (by first | rfl | (simp; done) | (simp [*]; done)), H', ⟨by first | omega | exact Nat.le_refl _⟩, ⟨bS BK138.out⟩, ⟨by repeat (first | (with_reducible first | exact HB.out | apply below_alloc | apply pw_below_drewN | apply below_drew1 | refine below_set ?_ GE138.out) | exact HB.out)⟩⟩
 case rest =>
  clear HC3
  try clear p2
  try clear c5
  try clear c5b0
  obtain ⟨kq, x13_2, rfl, HA, HJ2, BK138, HB⟩ := hcut
  cases kq with
  | zero => exact absurd HA.out (by simp [value_Take.j0])
  | succ kj2 =>
   have H := HA.out
   clear HA
   simp only [value_Take.j0] at H
   by_cases c6 : x13_2 = true
   ·subst c6
    have H1 : (some (0, 0, 0, (⟨#[]⟩ : ByteArray), 0, 1)) = some (r1, r2, r3, r4, r5, r6) := by rw [if_pos rfl] at H; exact H
    clear H
    have H := H1
    clear H1
    simp only [Option.some.injEq, Prod.mk.injEq] at H
    obtain ⟨rfl, rfl, rfl, rfl, rfl, rfl⟩ := H
    have hcz7_0 : wc.cell? ⟨gb138, 0, none⟩ = some (.int .i64 0) := (blk_cell BK138.out 0).trans rfl
    have hcz7_1 : wc.cell? ⟨gb138, 1, none⟩ = some (.int .i64 0) := (blk_cell BK138.out 1).trans rfl
    have hcz7_2 : wc.cell? ⟨gb138, 2, none⟩ = some (.int .i64 0) := (blk_cell BK138.out 2).trans rfl
    have hcz7_3 : wc.cell? ⟨gb138, 3, none⟩ = some (.string (⟨#[]⟩ : ByteArray)) := (blk_cell BK138.out 3).trans rfl
    have hfz7_0 := blk_frozen BK138.out 0
    have hfz7_1 := blk_frozen BK138.out 1
    have hfz7_2 := blk_frozen BK138.out 2
    have hfz7_3 := blk_frozen BK138.out 3
    go_wp2
    refine bodyPost_ret (results_ctt rfl _ _ gb138 23 #[.int .i64 0, .int .i64 0, .int .i64 0, .string (⟨#[]⟩ : ByteArray)] (0, 0) _ rfl (bS (blk_put (bS (blk_put (bS (blk_put (bS (blk_put (bS BK138.out) 0 _ rfl)) 1 _ rfl)) 2 _ rfl)) 3 _ rfl)) Try.underlying23 rfl (by kernel_rfl)) rfl ?_
    exact ⟨by first | rfl | (simp [errW_none, errW_some] <;> rfl) | (simp [*, errW_none, errW_some] <;> rfl), by repeat (first | (with_reducible first | exact HB.out | apply below_alloc | apply pw_below_drewN | apply below_drew1 | refine below_set ?_ GE138.out) | exact HB.out)⟩
   ·replace c6 := Bool.eq_false_iff.mpr c6
    subst c6
    have H1 : (if (wrap64 ((a0.size : Int) - a1)) < 2 then (some (0, 0, 0, (⟨#[]⟩ : ByteArray), 0, 2)) else ((varint_Get.f a0 (wrap64 (a1 + 2))).bind fun bt139 => (if bt139.2.2 = 0 then ((varint_Take.f kj2 a0 bt139.2.1 32).bind fun bt142 => (if bt142.2.2 = 0 then (if 0 ≤ a1 then (if a1 < (a0.size : Int) then (if 0 ≤ (wrap64 (a1 + 1)) then (if (wrap64 (a1 + 1)) < (a0.size : Int) then ((value_May.f (wrap64 (bt a0 a1)) (wrap64 ((wrap64 (bt a0 (wrap64 (a1 + 1)))) + (-128))) (wrap64 (mn bt139.1 1099511627777)) bt142.1).bind fun t146 => (if t146 = true then (some (wrap64 (bt a0 a1), wrap64 ((wrap64 (bt a0 (wrap64 (a1 + 1)))) + (-128)), wrap64 (mn bt139.1 1099511627777), bt142.1, bt142.2.1, 0)) else (some (0, 0, 0, (⟨#[]⟩ : ByteArray), 0, 3)))) else (none)) else (none)) else (none)) else (none)) else (some (0, 0, 0, (⟨#[]⟩ : ByteArray), 0, bt142.2.2)))) else (some (0, 0, 0, (⟨#[]⟩ : ByteArray), 0, bt139.2.2))))) = some (r1, r2, r3, r4, r5, r6) := by rw [if_neg (show ¬ (false = true) by decide)] at H; exact H
    clear H
    have H := H1
    clear H1
    by_cases c8 : (wrap64 ((a0.size : Int) - a1)) < 2
    ·rw [if_pos c8] at H
     have c8b0 : decide ((wrap64 ((a0.size : Int) - a1)) < 2) = true := decide_eq_true c8
     clear c8
     simp only [Option.some.injEq, Prod.mk.injEq] at H
     obtain ⟨rfl, rfl, rfl, rfl, rfl, rfl⟩ := H
     have hcz9_0 : wc.cell? ⟨gb138, 0, none⟩ = some (.int .i64 0) := (blk_cell BK138.out 0).trans rfl
     have hcz9_1 : wc.cell? ⟨gb138, 1, none⟩ = some (.int .i64 0) := (blk_cell BK138.out 1).trans rfl
     have hcz9_2 : wc.cell? ⟨gb138, 2, none⟩ = some (.int .i64 0) := (blk_cell BK138.out 2).trans rfl
     have hcz9_3 : wc.cell? ⟨gb138, 3, none⟩ = some (.string (⟨#[]⟩ : ByteArray)) := (blk_cell BK138.out 3).trans rfl
     have hfz9_0 := blk_frozen BK138.out 0
     have hfz9_1 := blk_frozen BK138.out 1
     have hfz9_2 := blk_frozen BK138.out 2
     have hfz9_3 := blk_frozen BK138.out 3
     go_wp2
     refine bodyPost_ret (results_ctt rfl _ _ gb138 23 #[.int .i64 0, .int .i64 0, .int .i64 0, .string (⟨#[]⟩ : ByteArray)] (0, 0) _ rfl (bS (blk_put (bS (blk_put (bS (blk_put (bS (blk_put (bS BK138.out) 0 _ rfl)) 1 _ rfl)) 2 _ rfl)) 3 _ rfl)) Try.underlying23 rfl (by kernel_rfl)) rfl ?_
     exact ⟨by first | rfl | (simp [errW_none, errW_some] <;> rfl) | (simp [*, errW_none, errW_some] <;> rfl), by repeat (first | (with_reducible first | exact HB.out | apply below_alloc | apply pw_below_drewN | apply below_drew1 | refine below_set ?_ GE138.out) | exact HB.out)⟩
    ·rw [if_neg c8] at H
     have c8b0 : decide ((wrap64 ((a0.size : Int) - a1)) < 2) = false := decide_eq_false c8
     clear c8
     replace H := Option.bind_eq_some_iff.mp H
     obtain ⟨⟨t139, t140, t141⟩, A100, H⟩ := H
     replace H : (if t141 = 0 then ((varint_Take.f kj2 a0 t140 32).bind fun bt142 => (if bt142.2.2 = 0 then (if 0 ≤ a1 then (if a1 < (a0.size : Int) then (if 0 ≤ (wrap64 (a1 + 1)) then (if (wrap64 (a1 + 1)) < (a0.size : Int) then ((value_May.f (wrap64 (bt a0 a1)) (wrap64 ((wrap64 (bt a0 (wrap64 (a1 + 1)))) + (-128))) (wrap64 (mn t139 1099511627777)) bt142.1).bind fun t146 => (if t146 = true then (some (wrap64 (bt a0 a1), wrap64 ((wrap64 (bt a0 (wrap64 (a1 + 1)))) + (-128)), wrap64 (mn t139 1099511627777), bt142.1, bt142.2.1, 0)) else (some (0, 0, 0, (⟨#[]⟩ : ByteArray), 0, 3)))) else (none)) else (none)) else (none)) else (none)) else (some (0, 0, 0, (⟨#[]⟩ : ByteArray), 0, bt142.2.2)))) else (some (0, 0, 0, (⟨#[]⟩ : ByteArray), 0, t141))) = some (r1, r2, r3, r4, r5, r6) := H
     have A10 := Aside0.mk A100
     clear A100
     by_cases c11 : t141 = 0
     ·rw [if_pos c11] at H
      have c11b0 : (t141 == 0) = true := beq_iff_eq.mpr c11
      have c11b1 : (t141 != 0) = false := bne_eq_false_iff_eq.mpr c11
      clear c11
      replace H := Option.bind_eq_some_iff.mp H
      obtain ⟨⟨t142, t143, t144⟩, A120, H⟩ := H
      replace H : (if t144 = 0 then (if 0 ≤ a1 then (if a1 < (a0.size : Int) then (if 0 ≤ (wrap64 (a1 + 1)) then (if (wrap64 (a1 + 1)) < (a0.size : Int) then ((value_May.f (wrap64 (bt a0 a1)) (wrap64 ((wrap64 (bt a0 (wrap64 (a1 + 1)))) + (-128))) (wrap64 (mn t139 1099511627777)) t142).bind fun t146 => (if t146 = true then (some (wrap64 (bt a0 a1), wrap64 ((wrap64 (bt a0 (wrap64 (a1 + 1)))) + (-128)), wrap64 (mn t139 1099511627777), t142, t143, 0)) else (some (0, 0, 0, (⟨#[]⟩ : ByteArray), 0, 3)))) else (none)) else (none)) else (none)) else (none)) else (some (0, 0, 0, (⟨#[]⟩ : ByteArray), 0, t144))) = some (r1, r2, r3, r4, r5, r6) := H
      have A12 := Aside0.mk A120
      clear A120
      by_cases c13 : t144 = 0
      ·rw [if_pos c13] at H
       have c13b0 : (t144 == 0) = true := beq_iff_eq.mpr c13
       have c13b1 : (t144 != 0) = false := bne_eq_false_iff_eq.mpr c13
       clear c13
       by_cases c14 : 0 ≤ a1
       ·rw [if_pos c14] at H
        have c14b0 : decide (0 ≤ a1) = true := decide_eq_true c14
        clear c14
        by_cases c15 : a1 < (a0.size : Int)
        ·rw [if_pos c15] at H
         have c15b0 : decide (a1 < (a0.size : Int)) = true := decide_eq_true c15
         clear c15
         obtain ⟨ji17, hji17⟩ : ∃ j_ : Int, (wrap64 (a1 + 1)) = j_ := ⟨_, rfl⟩
         replace H : (if 0 ≤ (ji17) then (if (ji17) < (a0.size : Int) then ((value_May.f (wrap64 (bt a0 a1)) (wrap64 ((wrap64 (bt a0 (ji17))) + (-128))) (wrap64 (mn t139 1099511627777)) t142).bind fun t146 => (if t146 = true then (some (wrap64 (bt a0 a1), wrap64 ((wrap64 (bt a0 (ji17))) + (-128)), wrap64 (mn t139 1099511627777), t142, t143, 0)) else (some (0, 0, 0, (⟨#[]⟩ : ByteArray), 0, 3)))) else (none)) else (none)) = some (r1, r2, r3, r4, r5, r6) := by first | (rw [hji17] at H; exact H) | (simp only [hji17] at H ⊢; exact H)
         (try rw [hji17] at A10)
         (try rw [hji17] at A12)
         have hji17w : (IntKind.i64.wrap (a1 + 1)) = ji17 := (i64_w _).trans hji17
         by_cases c18 : 0 ≤ (ji17)
         ·rw [if_pos c18] at H
          have c18b0 : decide (0 ≤ (ji17)) = true := decide_eq_true c18
          clear c18
          by_cases c19 : (ji17) < (a0.size : Int)
          ·rw [if_pos c19] at H
           have c19b0 : decide ((ji17) < (a0.size : Int)) = true := decide_eq_true c19
           clear c19
           obtain ⟨ji21, hji21⟩ : ∃ j_ : Int, (mn t139 1099511627777) = j_ := ⟨_, rfl⟩
           replace H : ((value_May.f (wrap64 (bt a0 a1)) (wrap64 ((wrap64 (bt a0 (ji17))) + (-128))) (wrap64 (ji21)) t142).bind fun t146 => (if t146 = true then (some (wrap64 (bt a0 a1), wrap64 ((wrap64 (bt a0 (ji17))) + (-128)), wrap64 (ji21), t142, t143, 0)) else (some (0, 0, 0, (⟨#[]⟩ : ByteArray), 0, 3)))) = some (r1, r2, r3, r4, r5, r6) := by first | (rw [hji21] at H; exact H) | (simp only [hji21] at H ⊢; exact H)
           (try rw [hji21] at A10)
           (try rw [hji21] at A12)
           (try (have hji21h : ji21 ≤ 1099511627777 := by (rw [← hji21]; unfold mn; (repeat' split) <;> omega)))
           (try (have hji21g : ji21 ≤ 64 := by omega))
           have hji21_ : (if 1099511627777 < t139 then 1099511627777 else t139) = ji21 := hji21
           replace H := Option.bind_eq_some_iff.mp H
           obtain ⟨t146, A220, H⟩ := H
           replace H : (if t146 = true then (some (wrap64 (bt a0 a1), wrap64 ((wrap64 (bt a0 (ji17))) + (-128)), wrap64 (ji21), t142, t143, 0)) else (some (0, 0, 0, (⟨#[]⟩ : ByteArray), 0, 3))) = some (r1, r2, r3, r4, r5, r6) := H
           have A22 := Aside0.mk A220
           clear A220
           by_cases c23 : t146 = true
           ·subst c23
            have H1 : (some (wrap64 (bt a0 a1), wrap64 ((wrap64 (bt a0 (ji17))) + (-128)), wrap64 (ji21), t142, t143, 0)) = some (r1, r2, r3, r4, r5, r6) := by rw [if_pos rfl] at H; exact H
            clear H
            have H := H1
            clear H1
            simp only [Option.some.injEq, Prod.mk.injEq] at H
            obtain ⟨rfl, rfl, rfl, rfl, rfl, rfl⟩ := H
            try go_wp2_with (first | ((with_reducible refine gate_callee (f := 42) rfl ?_); refine goesL_ (some 34) rfl rfl Try.func42 (by kernel_rfl) rfl #[.string a0, .int .i64 (wrap64 (a1 + 2))] rfl (by (try simp only [List.map_toArray, List.map_cons, List.map_nil]); first | done | rfl | (simp only [List.length_drop, List.length_take]; rfl)) ?_; (with_reducible refine (varint_Get.calls a0 (wrap64 (a1 + 2)) t139 t140 t141 _ A10.out).mono ?_); rintro e w' ⟨rfl, ⟨nd, rfl⟩⟩; refine ⟨_, rfl, ?_⟩; (try (rw [drewN_self wc]; generalize hq_ : World.drewN wc _ = wc; have n0_ : Aside0 (wc.heap[gb138]? = some (.cells #[.int .i64 0, .int .i64 0, .int .i64 0, .string (⟨#[]⟩ : ByteArray)] 23 (0, 0))) := ⟨by rw [← hq_]; exact (bS BK138.out)⟩; have n1_ : Aside0 (Below w.heap.size w wc) := ⟨by rw [← hq_]; exact (hS HB.out)⟩; clear BK138 HB hq_; have BK138 := n0_; have HB := n1_; clear n0_ n1_))) | ((with_reducible refine gate_callee (f := 71) rfl ?_); refine goesL_ (some 45) rfl rfl Try.func71 (by kernel_rfl) rfl #[.string a0, .int .i64 t140, .int .i64 32] rfl (by (try simp only [List.map_toArray, List.map_cons, List.map_nil]); first | done | rfl | (simp only [List.length_drop, List.length_take]; rfl)) ?_; (with_reducible refine (varint_Take.calls kj2 a0 t140 32 t142 t143 t144 _ A12.out).mono ?_); rintro e w' ⟨rfl, ⟨nd, rfl⟩⟩; refine ⟨_, rfl, ?_⟩; (try (rw [drewN_self wc]; generalize hq_ : World.drewN wc _ = wc; have n0_ : Aside0 (wc.heap[gb138]? = some (.cells #[.int .i64 0, .int .i64 0, .int .i64 0, .string (⟨#[]⟩ : ByteArray)] 23 (0, 0))) := ⟨by rw [← hq_]; exact (bS BK138.out)⟩; have n1_ : Aside0 (Below w.heap.size w wc) := ⟨by rw [← hq_]; exact (hS HB.out)⟩; clear BK138 HB hq_; have BK138 := n0_; have HB := n1_; clear n0_ n1_))))
            replace BK138 := Aside0.mk (blk_drew BK138.out)
            replace HB := Aside0.mk (below_drew1 HB.out)
            have p16 : 0 ≤ (a1 : Int) := of_decide_eq_true (by first | (with_reducible assumption) | assumption)
            have q16 : a1 < (a0.size : Int) := of_decide_eq_true (by first | (with_reducible assumption) | assumption)
            have hx16 := bt_at a0 a1
            replace p16 := eq_true p16
            replace q16 := eq_true q16
            have p20 : 0 ≤ ((ji17) : Int) := of_decide_eq_true (by first | (with_reducible assumption) | assumption)
            have q20 : (ji17) < (a0.size : Int) := of_decide_eq_true (by first | (with_reducible assumption) | assumption)
            have hx20 := bt_at a0 (ji17)
            replace p20 := eq_true p20
            replace q20 := eq_true q20
            refine start_ (n := 17) (S := fun w' => True) (ds := []) #[false, false, false, false, false, false, false, false, false, false, false, false, false, false, false, false, false] (by kernel_rfl) rfl rfl trivial (fun hHeld => ?_); refine with_tabW value_Take.tab11 value_Take.bits11 (fun HT_ HW_ => ?_)
            generalize wc.drew = w24 at BK138 HB hHeld ⊢
            refine pure_ (i := 0) (N := some 53) (v := ?_) (a' := ?_) #[true, false, false, false, false, false, false, false, false, false, false, false, false, false, false, false, false] rfl rfl (any_of HT_.out (by kernel_rfl)) (fun _ _ _ h => h) (Or.inl ⟨by rfl, ?_⟩) ?_ ?_
            rotate_left
            ·intro w'
             go_simp
             with_reducible rfl
            rotate_left
            ·simp only [Act.put, List.setIfInBounds_toArray, List.set_cons_zero, List.set_cons_succ, i64_w, i32_w]
             rfl
            refine pure_ (i := 1) (N := some 54) (v := ?_) (a' := ?_) #[true, true, false, false, false, false, false, false, false, false, false, false, false, false, false, false, false] rfl rfl (any_of HT_.out (by kernel_rfl)) (fun _ _ _ h => h) (Or.inl ⟨by rfl, ?_⟩) ?_ ?_
            rotate_left
            ·intro w'
             go_simp
             with_reducible rfl
            rotate_left
            ·simp only [Act.put, List.setIfInBounds_toArray, List.set_cons_zero, List.set_cons_succ, i64_w, i32_w]
             rfl
            refine pure_ (i := 4) (N := some 57) (v := ?_) (a' := ?_) #[true, true, false, false, true, false, false, false, false, false, false, false, false, false, false, false, false] rfl rfl (any_of HT_.out (by kernel_rfl)) (fun _ _ _ h => h) (Or.inl ⟨by rfl, ?_⟩) ?_ ?_
            rotate_left
            ·intro w'
             go_simp
             with_reducible rfl
            rotate_left
            ·simp only [Act.put, List.setIfInBounds_toArray, List.set_cons_zero, List.set_cons_succ, i64_w, i32_w]
             rfl
            refine pure_ (i := 5) (N := some 58) (v := ?_) (a' := ?_) #[true, true, false, false, true, true, false, false, false, false, false, false, false, false, false, false, false] rfl rfl (any_of HT_.out (by kernel_rfl)) (fun _ _ _ h => h) (Or.inl ⟨by rfl, ?_⟩) ?_ ?_
            rotate_left
            ·intro w'
             go_simp
             with_reducible rfl
            rotate_left
            ·simp only [Act.put, List.setIfInBounds_toArray, List.set_cons_zero, List.set_cons_succ, i64_w, i32_w]
             rfl
            refine pure_ (i := 6) (N := some 59) (v := ?_) (a' := ?_) #[true, true, false, false, true, true, true, false, false, false, false, false, false, false, false, false, false] rfl rfl (any_of HT_.out (by kernel_rfl)) (fun _ _ _ h => h) (Or.inl ⟨by rfl, ?_⟩) ?_ ?_
            rotate_left
            ·intro w'
             go_simp
             with_reducible rfl
            rotate_left
            ·simp only [Act.put, List.setIfInBounds_toArray, List.set_cons_zero, List.set_cons_succ, i64_w, i32_w]
             rfl
            refine pure_ (i := 10) (N := some 63) (v := ?_) (a' := ?_) #[true, true, false, false, true, true, true, false, false, false, true, false, false, false, false, false, false] rfl rfl (any_of HT_.out (by kernel_rfl)) (fun _ _ _ h => h) (Or.inl ⟨by rfl, ?_⟩) ?_ ?_
            rotate_left
            ·intro w'
             go_simp
             with_reducible rfl
            rotate_left
            ·simp only [Act.put, List.setIfInBounds_toArray, List.set_cons_zero, List.set_cons_succ, i64_w, i32_w]
             rfl
            refine pure_ (i := 11) (N := some 64) (v := ?_) (a' := ?_) #[true, true, false, false, true, true, true, false, false, false, true, true, false, false, false, false, false] rfl rfl (any_of HT_.out (by kernel_rfl)) (fun _ _ _ h => h) (Or.inl ⟨by rfl, ?_⟩) ?_ ?_
            rotate_left
            ·intro w'
             go_simp
             with_reducible rfl
            rotate_left
            ·simp only [Act.put, List.setIfInBounds_toArray, List.set_cons_zero, List.set_cons_succ, i64_w, i32_w]
             rfl
            refine pure_ (i := 12) (N := some 65) (v := ?_) (a' := ?_) #[true, true, false, false, true, true, true, false, false, false, true, true, true, false, false, false, false] rfl rfl (any_of HT_.out (by kernel_rfl)) (fun _ _ _ h => h) (Or.inl ⟨by rfl, ?_⟩) ?_ ?_
            rotate_left
            ·intro w'
             go_simp
             with_reducible rfl
            rotate_left
            ·simp only [Act.put, List.setIfInBounds_toArray, List.set_cons_zero, List.set_cons_succ, i64_w, i32_w]
             rfl
            refine pure_ (i := 13) (N := some 66) (v := ?_) (a' := ?_) #[true, true, false, false, true, true, true, false, false, false, true, true, true, true, false, false, false] rfl rfl (any_of HT_.out (by kernel_rfl)) (fun _ _ _ h => h) (Or.inl ⟨by rfl, ?_⟩) ?_ ?_
            rotate_left
            ·intro w'
             go_simp
             with_reducible rfl
            rotate_left
            ·simp only [Act.put, List.setIfInBounds_toArray, List.set_cons_zero, List.set_cons_succ, i64_w, i32_w]
             rfl
            refine take_ (i := 2) (N := some 55) (v := ?_) (a' := ?_) #[true, true, true, false, true, true, true, false, false, false, true, true, true, true, false, false, false] rfl rfl (take_ofW HT_.out HW_.out (by kernel_rfl)) (fun _ _ _ h => h) (Or.inl ⟨by rfl, ?_⟩) hHeld ?_ ?_
            rotate_left
            ·intro w' _
             go_simp
             with_reducible rfl
            rotate_left
            ·simp only [Act.put, List.setIfInBounds_toArray, List.set_cons_zero, List.set_cons_succ, i64_w, i32_w]
             rfl
            refine pure_ (i := 3) (N := some 56) (v := ?_) (a' := ?_) #[true, true, true, true, true, true, true, false, false, false, true, true, true, true, false, false, false] rfl rfl (any_of HT_.out (by kernel_rfl)) (fun _ _ _ h => h) (Or.inl ⟨by rfl, ?_⟩) ?_ ?_
            rotate_left
            ·intro w'
             go_simp
             with_reducible rfl
            rotate_left
            ·simp only [Act.put, List.setIfInBounds_toArray, List.set_cons_zero, List.set_cons_succ, i64_w, i32_w]
             rfl
            refine take_ (i := 7) (N := some 60) (v := ?_) (a' := ?_) #[true, true, true, true, true, true, true, true, false, false, true, true, true, true, false, false, false] rfl rfl (take_ofW HT_.out HW_.out (by kernel_rfl)) (fun _ _ _ h => h) (Or.inl ⟨by rfl, ?_⟩) hHeld ?_ ?_
            rotate_left
            ·intro w' _
             go_simp
             with_reducible rfl
            rotate_left
            ·simp only [Act.put, List.setIfInBounds_toArray, List.set_cons_zero, List.set_cons_succ, i64_w, i32_w]
             rfl
            refine pure_ (i := 8) (N := some 61) (v := ?_) (a' := ?_) #[true, true, true, true, true, true, true, true, true, false, true, true, true, true, false, false, false] rfl rfl (any_of HT_.out (by kernel_rfl)) (fun _ _ _ h => h) (Or.inl ⟨by rfl, ?_⟩) ?_ ?_
            rotate_left
            ·intro w'
             go_simp
             with_reducible rfl
            rotate_left
            ·simp only [Act.put, List.setIfInBounds_toArray, List.set_cons_zero, List.set_cons_succ, i64_w, i32_w]
             rfl
            refine pure_ (i := 9) (N := some 62) (v := ?_) (a' := ?_) #[true, true, true, true, true, true, true, true, true, true, true, true, true, true, false, false, false] rfl rfl (any_of HT_.out (by kernel_rfl)) (fun _ _ _ h => h) (Or.inl ⟨by rfl, ?_⟩) ?_ ?_
            rotate_left
            ·intro w'
             go_simp
             with_reducible rfl
            rotate_left
            ·simp only [Act.put, List.setIfInBounds_toArray, List.set_cons_zero, List.set_cons_succ, i64_w, i32_w]
             rfl
            refine pure_ (i := 14) (N := some 67) (v := ?_) (a' := ?_) #[true, true, true, true, true, true, true, true, true, true, true, true, true, true, true, false, false] rfl rfl (any_of HT_.out (by kernel_rfl)) (fun _ _ _ h => h) (Or.inl ⟨by rfl, ?_⟩) ?_ ?_
            rotate_left
            ·intro w'
             go_simp
             with_reducible rfl
            rotate_left
            ·simp only [Act.put, List.setIfInBounds_toArray, List.set_cons_zero, List.set_cons_succ, i64_w, i32_w]
             rfl
            refine one_ (i := 15) (N := some 12) #[true, true, true, true, true, true, true, true, true, true, true, true, true, true, true, true, false] rfl rfl (one_of HT_.out (by kernel_rfl)) (by decide) (fun K hK => ?_)
            refine box_step ?hg (N := 12) ?hd (cs := #[.int .i64 0, .int .i64 0, .int .i64 0, .string (⟨#[]⟩ : ByteArray)]) (t := 23) ?hr ?_; (case hd => rfl); (case hg => rfl); (case hr => first | (go_simp; done) | (go_simp; rfl))
            intro gb145 hg w25 hbox hb
            have BK145 := Aside0.mk (hbox)
            have GW145 := Aside0.mk ((by rw [hg]; exact (below_size (by repeat (first | (with_reducible first | exact HB.out | apply below_alloc | apply pw_below_drewN | apply below_drew1 | refine below_set ?_ GE138.out) | exact HB.out))) : w.heap.size ≤ gb145))
            have GE145 := Aside0.mk ((by rw [hg]; exact (below_size (by repeat (first | (with_reducible first | exact HB.out | apply below_alloc | apply pw_below_drewN | apply below_drew1 | refine below_set ?_ GE138.out) | exact HB.out))) : w.heap.size ≤ gb145))
            replace HB := Aside0.mk (below_step (by repeat (first | (with_reducible first | exact HB.out | apply below_alloc | apply pw_below_drewN | apply below_drew1 | refine below_set ?_ GE138.out) | exact HB.out)) hb)
            have NB138_145 := Aside0.mk ((by rw [hg]; exact Nat.ne_of_lt (blk_lt (g := gb138) (o := .cells #[.int .i64 0, .int .i64 0, .int .i64 0, .string (⟨#[]⟩ : ByteArray)] 23 (0, 0)) (bS BK138.out)) : gb138 ≠ gb145))
            have NB145_138 := Aside0.mk ((by rw [hg]; exact Nat.ne_of_gt (blk_lt (g := gb138) (o := .cells #[.int .i64 0, .int .i64 0, .int .i64 0, .string (⟨#[]⟩ : ByteArray)] 23 (0, 0)) (bS BK138.out)) : gb145 ≠ gb138))
            replace BK138 := Aside0.mk (blk_below (bS BK138.out) hb)
            clear hb hbox hg
            refine hK.out _ _ trivial (fun hHeld => ?_)
            clear hK K
            refine norm_ (a' := ?_) ?_ ?_
            rotate_left
            ·show Act.put _ (some 12) _ = _
             simp only [Act.put, List.setIfInBounds_toArray, List.set_cons_zero, List.set_cons_succ, i64_w, i32_w]
             rfl
            refine one_ (i := 16) (N := none) #[true, true, true, true, true, true, true, true, true, true, true, true, true, true, true, true, true] rfl rfl (one_of HT_.out (by kernel_rfl)) (by decide) (fun K hK => ?_)
            have hs26 : w25.cell? ⟨gb145, 0, none⟩ = some (.int .i64 0) := (blk_cell BK145.out 0).trans rfl
            have hfs26 := blk_frozen BK145.out 0
            have hns26_0 := NB138_145.out
            have hms26_0 := NB145_138.out
            have hs27 : w25.cell? ⟨gb145, 1, none⟩ = some (.int .i64 0) := (blk_cell BK145.out 1).trans rfl
            have hfs27 := blk_frozen BK145.out 1
            have hns27_0 := NB138_145.out
            have hms27_0 := NB145_138.out
            have hs28 : w25.cell? ⟨gb145, 2, none⟩ = some (.int .i64 0) := (blk_cell BK145.out 2).trans rfl
            have hfs28 := blk_frozen BK145.out 2
            have hns28_0 := NB138_145.out
            have hms28_0 := NB145_138.out
            have hs29 : w25.cell? ⟨gb145, 3, none⟩ = some (.string (⟨#[]⟩ : ByteArray)) := (blk_cell BK145.out 3).trans rfl
            have hfs29 := blk_frozen BK145.out 3
            have hns29_0 := NB138_145.out
            have hms29_0 := NB145_138.out
            refine skip_ (w1 := ?_) (by rfl) rfl ?_ ?_
            rotate_left
            ·go_simp
             rfl
            refine hK.out _ _ trivial (fun hHeld => ?_)
            clear hK K
            refine done_ (done_of HT_.out (by kernel_rfl)) ?_
            have hnb30 := NB145_138.out
            have hnc30 := NB138_145.out
            have hcz31_0 : w25.cell? ⟨gb145, 0, none⟩ = some (.int .i64 0) := (blk_cell BK145.out 0).trans rfl
            have hcz31_1 : w25.cell? ⟨gb145, 1, none⟩ = some (.int .i64 0) := (blk_cell BK145.out 1).trans rfl
            have hcz31_2 : w25.cell? ⟨gb145, 2, none⟩ = some (.int .i64 0) := (blk_cell BK145.out 2).trans rfl
            have hcz31_3 : w25.cell? ⟨gb145, 3, none⟩ = some (.string (⟨#[]⟩ : ByteArray)) := (blk_cell BK145.out 3).trans rfl
            have hfz31_0 := blk_frozen BK145.out 0
            have hfz31_1 := blk_frozen BK145.out 1
            have hfz31_2 := blk_frozen BK145.out 2
            have hfz31_3 := blk_frozen BK145.out 3
            try go_wp2_with (first | ((with_reducible refine gate_callee (f := 70) rfl ?_); refine goesL_ (some 69) rfl rfl Try.func70 (by kernel_rfl) rfl #[.agg #[.int .i64 (wrap64 (bt a0 a1)), .int .i64 (wrap64 ((wrap64 (bt a0 (ji17))) + (-128))), .int .i64 (wrap64 (ji21)), .string t142]] rfl (by (try simp only [List.map_toArray, List.map_cons, List.map_nil]); first | done | (simp only [hji17, hji21]; rfl) | rfl | (simp only [List.length_drop, List.length_take]; rfl)) ?_; (with_reducible refine (value_May.calls (wrap64 (bt a0 a1)) (wrap64 ((wrap64 (bt a0 (ji17))) + (-128))) (wrap64 (ji21)) t142 true _ A22.out).mono ?_); rintro e w32 ⟨rfl, hb⟩; refine ⟨_, rfl, ?_⟩; replace BK138 := Aside0.mk (blk_below (bF (BK138.out) NB138_145.out) hb); replace BK145 := Aside0.mk (blk_below (g := gb145) (o := .cells #[.int .i64 (wrap64 (bt a0 a1)), .int .i64 (wrap64 ((wrap64 (bt a0 (ji17))) + (-128))), .int .i64 (wrap64 (ji21)), .string t142] 23 (0, 0)) (bS (blk_put (bS (blk_put (bS (blk_put (bS (blk_put (bS BK145.out) 0 _ rfl)) 1 _ rfl)) 2 _ rfl)) 3 _ rfl)) hb); replace HB := Aside0.mk (below_step (hF HB.out GE145.out) hb); (try clear hb); (try clear hb2); (try clear hk); (try clear hi); have hcz33_0 : w32.cell? ⟨gb145, 0, none⟩ = some (.int .i64 (wrap64 (bt a0 a1))) := (blk_cell BK145.out 0).trans rfl; have hcz33_1 : w32.cell? ⟨gb145, 1, none⟩ = some (.int .i64 (wrap64 ((wrap64 (bt a0 (ji17))) + (-128)))) := (blk_cell BK145.out 1).trans rfl; have hcz33_2 : w32.cell? ⟨gb145, 2, none⟩ = some (.int .i64 (wrap64 (ji21))) := (blk_cell BK145.out 2).trans rfl; have hcz33_3 : w32.cell? ⟨gb145, 3, none⟩ = some (.string t142) := (blk_cell BK145.out 3).trans rfl; have hfz33_0 := blk_frozen BK145.out 0; have hfz33_1 := blk_frozen BK145.out 1; have hfz33_2 := blk_frozen BK145.out 2; have hfz33_3 := blk_frozen BK145.out 3; have hcz34_0 : w32.cell? ⟨gb138, 0, none⟩ = some (.int .i64 0) := (blk_cell BK138.out 0).trans rfl; have hcz34_1 : w32.cell? ⟨gb138, 1, none⟩ = some (.int .i64 0) := (blk_cell BK138.out 1).trans rfl; have hcz34_2 : w32.cell? ⟨gb138, 2, none⟩ = some (.int .i64 0) := (blk_cell BK138.out 2).trans rfl; have hcz34_3 : w32.cell? ⟨gb138, 3, none⟩ = some (.string (⟨#[]⟩ : ByteArray)) := (blk_cell BK138.out 3).trans rfl; have hfz34_0 := blk_frozen BK138.out 0; have hfz34_1 := blk_frozen BK138.out 1; have hfz34_2 := blk_frozen BK138.out 2; have hfz34_3 := blk_frozen BK138.out 3))
            refine bodyPost_ret (results_ctt rfl _ _ gb138 23 #[.int .i64 (wrap64 (bt a0 a1)), .int .i64 (wrap64 ((wrap64 (bt a0 (ji17))) + (-128))), .int .i64 (wrap64 (ji21)), .string t142] (0, 0) _ rfl (bS (blk_put (bS (blk_put (bS (blk_put (bS (blk_put (bS BK138.out) 0 _ rfl)) 1 _ rfl)) 2 _ rfl)) 3 _ rfl)) Try.underlying23 rfl (by kernel_rfl)) rfl ?_
            exact ⟨by first | rfl | (simp [errW_none, errW_some] <;> rfl) | (simp only [← hji17, ← hji21]; first | rfl | (simp [errW_none, errW_some] <;> rfl)) | (simp [*, errW_none, errW_some] <;> rfl), by repeat (first | (with_reducible first | exact HB.out | apply below_alloc | apply pw_below_drewN | apply below_drew1 | refine below_set ?_ GE138.out | refine below_set ?_ GE145.out) | exact HB.out)⟩
           ·replace c23 := Bool.eq_false_iff.mpr c23
            subst c23
            have H1 : (some (0, 0, 0, (⟨#[]⟩ : ByteArray), 0, 3)) = some (r1, r2, r3, r4, r5, r6) := by rw [if_neg (show ¬ (false = true) by decide)] at H; exact H
            clear H
            have H := H1
            clear H1
            simp only [Option.some.injEq, Prod.mk.injEq] at H
            obtain ⟨rfl, rfl, rfl, rfl, rfl, rfl⟩ := H
            try go_wp2_with (first | ((with_reducible refine gate_callee (f := 42) rfl ?_); refine goesL_ (some 34) rfl rfl Try.func42 (by kernel_rfl) rfl #[.string a0, .int .i64 (wrap64 (a1 + 2))] rfl (by (try simp only [List.map_toArray, List.map_cons, List.map_nil]); first | done | rfl | (simp only [List.length_drop, List.length_take]; rfl)) ?_; (with_reducible refine (varint_Get.calls a0 (wrap64 (a1 + 2)) t139 t140 t141 _ A10.out).mono ?_); rintro e w' ⟨rfl, ⟨nd, rfl⟩⟩; refine ⟨_, rfl, ?_⟩; (try (rw [drewN_self wc]; generalize hq_ : World.drewN wc _ = wc; have n0_ : Aside0 (wc.heap[gb138]? = some (.cells #[.int .i64 0, .int .i64 0, .int .i64 0, .string (⟨#[]⟩ : ByteArray)] 23 (0, 0))) := ⟨by rw [← hq_]; exact (bS BK138.out)⟩; have n1_ : Aside0 (Below w.heap.size w wc) := ⟨by rw [← hq_]; exact (hS HB.out)⟩; clear BK138 HB hq_; have BK138 := n0_; have HB := n1_; clear n0_ n1_))) | ((with_reducible refine gate_callee (f := 71) rfl ?_); refine goesL_ (some 45) rfl rfl Try.func71 (by kernel_rfl) rfl #[.string a0, .int .i64 t140, .int .i64 32] rfl (by (try simp only [List.map_toArray, List.map_cons, List.map_nil]); first | done | rfl | (simp only [List.length_drop, List.length_take]; rfl)) ?_; (with_reducible refine (varint_Take.calls kj2 a0 t140 32 t142 t143 t144 _ A12.out).mono ?_); rintro e w' ⟨rfl, ⟨nd, rfl⟩⟩; refine ⟨_, rfl, ?_⟩; (try (rw [drewN_self wc]; generalize hq_ : World.drewN wc _ = wc; have n0_ : Aside0 (wc.heap[gb138]? = some (.cells #[.int .i64 0, .int .i64 0, .int .i64 0, .string (⟨#[]⟩ : ByteArray)] 23 (0, 0))) := ⟨by rw [← hq_]; exact (bS BK138.out)⟩; have n1_ : Aside0 (Below w.heap.size w wc) := ⟨by rw [← hq_]; exact (hS HB.out)⟩; clear BK138 HB hq_; have BK138 := n0_; have HB := n1_; clear n0_ n1_))))
            replace BK138 := Aside0.mk (blk_drew BK138.out)
            replace HB := Aside0.mk (below_drew1 HB.out)
            have p16 : 0 ≤ (a1 : Int) := of_decide_eq_true (by first | (with_reducible assumption) | assumption)
            have q16 : a1 < (a0.size : Int) := of_decide_eq_true (by first | (with_reducible assumption) | assumption)
            have hx16 := bt_at a0 a1
            replace p16 := eq_true p16
            replace q16 := eq_true q16
            have p20 : 0 ≤ ((ji17) : Int) := of_decide_eq_true (by first | (with_reducible assumption) | assumption)
            have q20 : (ji17) < (a0.size : Int) := of_decide_eq_true (by first | (with_reducible assumption) | assumption)
            have hx20 := bt_at a0 (ji17)
            replace p20 := eq_true p20
            replace q20 := eq_true q20
            refine start_ (n := 17) (S := fun w' => True) (ds := []) #[false, false, false, false, false, false, false, false, false, false, false, false, false, false, false, false, false] (by kernel_rfl) rfl rfl trivial (fun hHeld => ?_); refine with_tabW value_Take.tab11 value_Take.bits11 (fun HT_ HW_ => ?_)
            generalize wc.drew = w35 at BK138 HB hHeld ⊢
            refine pure_ (i := 0) (N := some 53) (v := ?_) (a' := ?_) #[true, false, false, false, false, false, false, false, false, false, false, false, false, false, false, false, false] rfl rfl (any_of HT_.out (by kernel_rfl)) (fun _ _ _ h => h) (Or.inl ⟨by rfl, ?_⟩) ?_ ?_
            rotate_left
            ·intro w'
             go_simp
             with_reducible rfl
            rotate_left
            ·simp only [Act.put, List.setIfInBounds_toArray, List.set_cons_zero, List.set_cons_succ, i64_w, i32_w]
             rfl
            refine pure_ (i := 1) (N := some 54) (v := ?_) (a' := ?_) #[true, true, false, false, false, false, false, false, false, false, false, false, false, false, false, false, false] rfl rfl (any_of HT_.out (by kernel_rfl)) (fun _ _ _ h => h) (Or.inl ⟨by rfl, ?_⟩) ?_ ?_
            rotate_left
            ·intro w'
             go_simp
             with_reducible rfl
            rotate_left
            ·simp only [Act.put, List.setIfInBounds_toArray, List.set_cons_zero, List.set_cons_succ, i64_w, i32_w]
             rfl
            refine pure_ (i := 4) (N := some 57) (v := ?_) (a' := ?_) #[true, true, false, false, true, false, false, false, false, false, false, false, false, false, false, false, false] rfl rfl (any_of HT_.out (by kernel_rfl)) (fun _ _ _ h => h) (Or.inl ⟨by rfl, ?_⟩) ?_ ?_
            rotate_left
            ·intro w'
             go_simp
             with_reducible rfl
            rotate_left
            ·simp only [Act.put, List.setIfInBounds_toArray, List.set_cons_zero, List.set_cons_succ, i64_w, i32_w]
             rfl
            refine pure_ (i := 5) (N := some 58) (v := ?_) (a' := ?_) #[true, true, false, false, true, true, false, false, false, false, false, false, false, false, false, false, false] rfl rfl (any_of HT_.out (by kernel_rfl)) (fun _ _ _ h => h) (Or.inl ⟨by rfl, ?_⟩) ?_ ?_
            rotate_left
            ·intro w'
             go_simp
             with_reducible rfl
            rotate_left
            ·simp only [Act.put, List.setIfInBounds_toArray, List.set_cons_zero, List.set_cons_succ, i64_w, i32_w]
             rfl
            refine pure_ (i := 6) (N := some 59) (v := ?_) (a' := ?_) #[true, true, false, false, true, true, true, false, false, false, false, false, false, false, false, false, false] rfl rfl (any_of HT_.out (by kernel_rfl)) (fun _ _ _ h => h) (Or.inl ⟨by rfl, ?_⟩) ?_ ?_
            rotate_left
            ·intro w'
             go_simp
             with_reducible rfl
            rotate_left
            ·simp only [Act.put, List.setIfInBounds_toArray, List.set_cons_zero, List.set_cons_succ, i64_w, i32_w]
             rfl
            refine pure_ (i := 10) (N := some 63) (v := ?_) (a' := ?_) #[true, true, false, false, true, true, true, false, false, false, true, false, false, false, false, false, false] rfl rfl (any_of HT_.out (by kernel_rfl)) (fun _ _ _ h => h) (Or.inl ⟨by rfl, ?_⟩) ?_ ?_
            rotate_left
            ·intro w'
             go_simp
             with_reducible rfl
            rotate_left
            ·simp only [Act.put, List.setIfInBounds_toArray, List.set_cons_zero, List.set_cons_succ, i64_w, i32_w]
             rfl
            refine pure_ (i := 11) (N := some 64) (v := ?_) (a' := ?_) #[true, true, false, false, true, true, true, false, false, false, true, true, false, false, false, false, false] rfl rfl (any_of HT_.out (by kernel_rfl)) (fun _ _ _ h => h) (Or.inl ⟨by rfl, ?_⟩) ?_ ?_
            rotate_left
            ·intro w'
             go_simp
             with_reducible rfl
            rotate_left
            ·simp only [Act.put, List.setIfInBounds_toArray, List.set_cons_zero, List.set_cons_succ, i64_w, i32_w]
             rfl
            refine pure_ (i := 12) (N := some 65) (v := ?_) (a' := ?_) #[true, true, false, false, true, true, true, false, false, false, true, true, true, false, false, false, false] rfl rfl (any_of HT_.out (by kernel_rfl)) (fun _ _ _ h => h) (Or.inl ⟨by rfl, ?_⟩) ?_ ?_
            rotate_left
            ·intro w'
             go_simp
             with_reducible rfl
            rotate_left
            ·simp only [Act.put, List.setIfInBounds_toArray, List.set_cons_zero, List.set_cons_succ, i64_w, i32_w]
             rfl
            refine pure_ (i := 13) (N := some 66) (v := ?_) (a' := ?_) #[true, true, false, false, true, true, true, false, false, false, true, true, true, true, false, false, false] rfl rfl (any_of HT_.out (by kernel_rfl)) (fun _ _ _ h => h) (Or.inl ⟨by rfl, ?_⟩) ?_ ?_
            rotate_left
            ·intro w'
             go_simp
             with_reducible rfl
            rotate_left
            ·simp only [Act.put, List.setIfInBounds_toArray, List.set_cons_zero, List.set_cons_succ, i64_w, i32_w]
             rfl
            refine take_ (i := 2) (N := some 55) (v := ?_) (a' := ?_) #[true, true, true, false, true, true, true, false, false, false, true, true, true, true, false, false, false] rfl rfl (take_ofW HT_.out HW_.out (by kernel_rfl)) (fun _ _ _ h => h) (Or.inl ⟨by rfl, ?_⟩) hHeld ?_ ?_
            rotate_left
            ·intro w' _
             go_simp
             with_reducible rfl
            rotate_left
            ·simp only [Act.put, List.setIfInBounds_toArray, List.set_cons_zero, List.set_cons_succ, i64_w, i32_w]
             rfl
            refine pure_ (i := 3) (N := some 56) (v := ?_) (a' := ?_) #[true, true, true, true, true, true, true, false, false, false, true, true, true, true, false, false, false] rfl rfl (any_of HT_.out (by kernel_rfl)) (fun _ _ _ h => h) (Or.inl ⟨by rfl, ?_⟩) ?_ ?_
            rotate_left
            ·intro w'
             go_simp
             with_reducible rfl
            rotate_left
            ·simp only [Act.put, List.setIfInBounds_toArray, List.set_cons_zero, List.set_cons_succ, i64_w, i32_w]
             rfl
            refine take_ (i := 7) (N := some 60) (v := ?_) (a' := ?_) #[true, true, true, true, true, true, true, true, false, false, true, true, true, true, false, false, false] rfl rfl (take_ofW HT_.out HW_.out (by kernel_rfl)) (fun _ _ _ h => h) (Or.inl ⟨by rfl, ?_⟩) hHeld ?_ ?_
            rotate_left
            ·intro w' _
             go_simp
             with_reducible rfl
            rotate_left
            ·simp only [Act.put, List.setIfInBounds_toArray, List.set_cons_zero, List.set_cons_succ, i64_w, i32_w]
             rfl
            refine pure_ (i := 8) (N := some 61) (v := ?_) (a' := ?_) #[true, true, true, true, true, true, true, true, true, false, true, true, true, true, false, false, false] rfl rfl (any_of HT_.out (by kernel_rfl)) (fun _ _ _ h => h) (Or.inl ⟨by rfl, ?_⟩) ?_ ?_
            rotate_left
            ·intro w'
             go_simp
             with_reducible rfl
            rotate_left
            ·simp only [Act.put, List.setIfInBounds_toArray, List.set_cons_zero, List.set_cons_succ, i64_w, i32_w]
             rfl
            refine pure_ (i := 9) (N := some 62) (v := ?_) (a' := ?_) #[true, true, true, true, true, true, true, true, true, true, true, true, true, true, false, false, false] rfl rfl (any_of HT_.out (by kernel_rfl)) (fun _ _ _ h => h) (Or.inl ⟨by rfl, ?_⟩) ?_ ?_
            rotate_left
            ·intro w'
             go_simp
             with_reducible rfl
            rotate_left
            ·simp only [Act.put, List.setIfInBounds_toArray, List.set_cons_zero, List.set_cons_succ, i64_w, i32_w]
             rfl
            refine pure_ (i := 14) (N := some 67) (v := ?_) (a' := ?_) #[true, true, true, true, true, true, true, true, true, true, true, true, true, true, true, false, false] rfl rfl (any_of HT_.out (by kernel_rfl)) (fun _ _ _ h => h) (Or.inl ⟨by rfl, ?_⟩) ?_ ?_
            rotate_left
            ·intro w'
             go_simp
             with_reducible rfl
            rotate_left
            ·simp only [Act.put, List.setIfInBounds_toArray, List.set_cons_zero, List.set_cons_succ, i64_w, i32_w]
             rfl
            refine one_ (i := 15) (N := some 12) #[true, true, true, true, true, true, true, true, true, true, true, true, true, true, true, true, false] rfl rfl (one_of HT_.out (by kernel_rfl)) (by decide) (fun K hK => ?_)
            refine box_step ?hg (N := 12) ?hd (cs := #[.int .i64 0, .int .i64 0, .int .i64 0, .string (⟨#[]⟩ : ByteArray)]) (t := 23) ?hr ?_; (case hd => rfl); (case hg => rfl); (case hr => first | (go_simp; done) | (go_simp; rfl))
            intro gb145 hg w36 hbox hb
            have BK145 := Aside0.mk (hbox)
            have GW145 := Aside0.mk ((by rw [hg]; exact (below_size (by repeat (first | (with_reducible first | exact HB.out | apply below_alloc | apply pw_below_drewN | apply below_drew1 | refine below_set ?_ GE138.out) | exact HB.out))) : w.heap.size ≤ gb145))
            have GE145 := Aside0.mk ((by rw [hg]; exact (below_size (by repeat (first | (with_reducible first | exact HB.out | apply below_alloc | apply pw_below_drewN | apply below_drew1 | refine below_set ?_ GE138.out) | exact HB.out))) : w.heap.size ≤ gb145))
            replace HB := Aside0.mk (below_step (by repeat (first | (with_reducible first | exact HB.out | apply below_alloc | apply pw_below_drewN | apply below_drew1 | refine below_set ?_ GE138.out) | exact HB.out)) hb)
            have NB138_145 := Aside0.mk ((by rw [hg]; exact Nat.ne_of_lt (blk_lt (g := gb138) (o := .cells #[.int .i64 0, .int .i64 0, .int .i64 0, .string (⟨#[]⟩ : ByteArray)] 23 (0, 0)) (bS BK138.out)) : gb138 ≠ gb145))
            have NB145_138 := Aside0.mk ((by rw [hg]; exact Nat.ne_of_gt (blk_lt (g := gb138) (o := .cells #[.int .i64 0, .int .i64 0, .int .i64 0, .string (⟨#[]⟩ : ByteArray)] 23 (0, 0)) (bS BK138.out)) : gb145 ≠ gb138))
            replace BK138 := Aside0.mk (blk_below (bS BK138.out) hb)
            clear hb hbox hg
            refine hK.out _ _ trivial (fun hHeld => ?_)
            clear hK K
            refine norm_ (a' := ?_) ?_ ?_
            rotate_left
            ·show Act.put _ (some 12) _ = _
             simp only [Act.put, List.setIfInBounds_toArray, List.set_cons_zero, List.set_cons_succ, i64_w, i32_w]
             rfl
            refine one_ (i := 16) (N := none) #[true, true, true, true, true, true, true, true, true, true, true, true, true, true, true, true, true] rfl rfl (one_of HT_.out (by kernel_rfl)) (by decide) (fun K hK => ?_)
            have hs37 : w36.cell? ⟨gb145, 0, none⟩ = some (.int .i64 0) := (blk_cell BK145.out 0).trans rfl
            have hfs37 := blk_frozen BK145.out 0
            have hns37_0 := NB138_145.out
            have hms37_0 := NB145_138.out
            have hs38 : w36.cell? ⟨gb145, 1, none⟩ = some (.int .i64 0) := (blk_cell BK145.out 1).trans rfl
            have hfs38 := blk_frozen BK145.out 1
            have hns38_0 := NB138_145.out
            have hms38_0 := NB145_138.out
            have hs39 : w36.cell? ⟨gb145, 2, none⟩ = some (.int .i64 0) := (blk_cell BK145.out 2).trans rfl
            have hfs39 := blk_frozen BK145.out 2
            have hns39_0 := NB138_145.out
            have hms39_0 := NB145_138.out
            have hs40 : w36.cell? ⟨gb145, 3, none⟩ = some (.string (⟨#[]⟩ : ByteArray)) := (blk_cell BK145.out 3).trans rfl
            have hfs40 := blk_frozen BK145.out 3
            have hns40_0 := NB138_145.out
            have hms40_0 := NB145_138.out
            refine skip_ (w1 := ?_) (by rfl) rfl ?_ ?_
            rotate_left
            ·go_simp
             rfl
            refine hK.out _ _ trivial (fun hHeld => ?_)
            clear hK K
            refine done_ (done_of HT_.out (by kernel_rfl)) ?_
            have hnb41 := NB145_138.out
            have hnc41 := NB138_145.out
            have hcz42_0 : w36.cell? ⟨gb145, 0, none⟩ = some (.int .i64 0) := (blk_cell BK145.out 0).trans rfl
            have hcz42_1 : w36.cell? ⟨gb145, 1, none⟩ = some (.int .i64 0) := (blk_cell BK145.out 1).trans rfl
            have hcz42_2 : w36.cell? ⟨gb145, 2, none⟩ = some (.int .i64 0) := (blk_cell BK145.out 2).trans rfl
            have hcz42_3 : w36.cell? ⟨gb145, 3, none⟩ = some (.string (⟨#[]⟩ : ByteArray)) := (blk_cell BK145.out 3).trans rfl
            have hfz42_0 := blk_frozen BK145.out 0
            have hfz42_1 := blk_frozen BK145.out 1
            have hfz42_2 := blk_frozen BK145.out 2
            have hfz42_3 := blk_frozen BK145.out 3
            try go_wp2_with (first | ((with_reducible refine gate_callee (f := 70) rfl ?_); refine goesL_ (some 69) rfl rfl Try.func70 (by kernel_rfl) rfl #[.agg #[.int .i64 (wrap64 (bt a0 a1)), .int .i64 (wrap64 ((wrap64 (bt a0 (ji17))) + (-128))), .int .i64 (wrap64 (ji21)), .string t142]] rfl (by (try simp only [List.map_toArray, List.map_cons, List.map_nil]); first | done | (simp only [hji17, hji21]; rfl) | rfl | (simp only [List.length_drop, List.length_take]; rfl)) ?_; (with_reducible refine (value_May.calls (wrap64 (bt a0 a1)) (wrap64 ((wrap64 (bt a0 (ji17))) + (-128))) (wrap64 (ji21)) t142 false _ A22.out).mono ?_); rintro e w43 ⟨rfl, hb⟩; refine ⟨_, rfl, ?_⟩; replace BK138 := Aside0.mk (blk_below (bF (BK138.out) NB138_145.out) hb); replace BK145 := Aside0.mk (blk_below (g := gb145) (o := .cells #[.int .i64 (wrap64 (bt a0 a1)), .int .i64 (wrap64 ((wrap64 (bt a0 (ji17))) + (-128))), .int .i64 (wrap64 (ji21)), .string t142] 23 (0, 0)) (bS (blk_put (bS (blk_put (bS (blk_put (bS (blk_put (bS BK145.out) 0 _ rfl)) 1 _ rfl)) 2 _ rfl)) 3 _ rfl)) hb); replace HB := Aside0.mk (below_step (hF HB.out GE145.out) hb); (try clear hb); (try clear hb2); (try clear hk); (try clear hi); have hcz44_0 : w43.cell? ⟨gb138, 0, none⟩ = some (.int .i64 0) := (blk_cell BK138.out 0).trans rfl; have hcz44_1 : w43.cell? ⟨gb138, 1, none⟩ = some (.int .i64 0) := (blk_cell BK138.out 1).trans rfl; have hcz44_2 : w43.cell? ⟨gb138, 2, none⟩ = some (.int .i64 0) := (blk_cell BK138.out 2).trans rfl; have hcz44_3 : w43.cell? ⟨gb138, 3, none⟩ = some (.string (⟨#[]⟩ : ByteArray)) := (blk_cell BK138.out 3).trans rfl; have hfz44_0 := blk_frozen BK138.out 0; have hfz44_1 := blk_frozen BK138.out 1; have hfz44_2 := blk_frozen BK138.out 2; have hfz44_3 := blk_frozen BK138.out 3))
            refine bodyPost_ret (results_ctt rfl _ _ gb138 23 #[.int .i64 0, .int .i64 0, .int .i64 0, .string (⟨#[]⟩ : ByteArray)] (0, 0) _ rfl (bS (blk_put (bS (blk_put (bS (blk_put (bS (blk_put (bS BK138.out) 0 _ rfl)) 1 _ rfl)) 2 _ rfl)) 3 _ rfl)) Try.underlying23 rfl (by kernel_rfl)) rfl ?_
            exact ⟨by first | rfl | (simp [errW_none, errW_some] <;> rfl) | (simp only [← hji17, ← hji21]; first | rfl | (simp [errW_none, errW_some] <;> rfl)) | (simp [*, errW_none, errW_some] <;> rfl), by repeat (first | (with_reducible first | exact HB.out | apply below_alloc | apply pw_below_drewN | apply below_drew1 | refine below_set ?_ GE138.out | refine below_set ?_ GE145.out) | exact HB.out)⟩
          ·rw [if_neg c19] at H
           exact absurd H (by simp)
         ·rw [if_neg c18] at H
          exact absurd H (by simp)
        ·rw [if_neg c15] at H
         exact absurd H (by simp)
       ·rw [if_neg c14] at H
        exact absurd H (by simp)
      ·rw [if_neg c13] at H
       have c13b0 : (t144 == 0) = false := beq_eq_false_iff_ne.mpr c13
       have c13b1 : (t144 != 0) = true := bne_iff_ne.mpr c13
       simp only [Option.some.injEq, Prod.mk.injEq] at H
       obtain ⟨rfl, rfl, rfl, rfl, rfl, rfl⟩ := H
       go_wp2_with (first | ((with_reducible refine gate_callee (f := 42) rfl ?_); refine goesL_ (some 34) rfl rfl Try.func42 (by kernel_rfl) rfl #[.string a0, .int .i64 (wrap64 (a1 + 2))] rfl (by (try simp only [List.map_toArray, List.map_cons, List.map_nil]); first | done | rfl | (simp only [List.length_drop, List.length_take]; rfl)) ?_; (with_reducible refine (varint_Get.calls a0 (wrap64 (a1 + 2)) t139 t140 t141 _ A10.out).mono ?_); rintro e w' ⟨rfl, ⟨nd, rfl⟩⟩; refine ⟨_, rfl, ?_⟩; (try (rw [drewN_self wc]; generalize hq_ : World.drewN wc _ = wc; have n0_ : Aside0 (wc.heap[gb138]? = some (.cells #[.int .i64 0, .int .i64 0, .int .i64 0, .string (⟨#[]⟩ : ByteArray)] 23 (0, 0))) := ⟨by rw [← hq_]; exact (bS BK138.out)⟩; have n1_ : Aside0 (Below w.heap.size w wc) := ⟨by rw [← hq_]; exact (hS HB.out)⟩; clear BK138 HB hq_; have BK138 := n0_; have HB := n1_; clear n0_ n1_))) | ((with_reducible refine gate_callee (f := 71) rfl ?_); refine goesL_ (some 45) rfl rfl Try.func71 (by kernel_rfl) rfl #[.string a0, .int .i64 t140, .int .i64 32] rfl (by (try simp only [List.map_toArray, List.map_cons, List.map_nil]); first | done | rfl | (simp only [List.length_drop, List.length_take]; rfl)) ?_; (with_reducible refine (varint_Take.calls kj2 a0 t140 32 t142 t143 t144 _ A12.out).mono ?_); rintro e w' ⟨rfl, ⟨nd, rfl⟩⟩; refine ⟨_, rfl, ?_⟩; (try (rw [drewN_self wc]; generalize hq_ : World.drewN wc _ = wc; have n0_ : Aside0 (wc.heap[gb138]? = some (.cells #[.int .i64 0, .int .i64 0, .int .i64 0, .string (⟨#[]⟩ : ByteArray)] 23 (0, 0))) := ⟨by rw [← hq_]; exact (bS BK138.out)⟩; have n1_ : Aside0 (Below w.heap.size w wc) := ⟨by rw [← hq_]; exact (hS HB.out)⟩; clear BK138 HB hq_; have BK138 := n0_; have HB := n1_; clear n0_ n1_)); have hcz45_0 : wc.cell? ⟨gb138, 0, none⟩ = some (.int .i64 0) := (blk_cell BK138.out 0).trans rfl; have hcz45_1 : wc.cell? ⟨gb138, 1, none⟩ = some (.int .i64 0) := (blk_cell BK138.out 1).trans rfl; have hcz45_2 : wc.cell? ⟨gb138, 2, none⟩ = some (.int .i64 0) := (blk_cell BK138.out 2).trans rfl; have hcz45_3 : wc.cell? ⟨gb138, 3, none⟩ = some (.string (⟨#[]⟩ : ByteArray)) := (blk_cell BK138.out 3).trans rfl; have hfz45_0 := blk_frozen BK138.out 0; have hfz45_1 := blk_frozen BK138.out 1; have hfz45_2 := blk_frozen BK138.out 2; have hfz45_3 := blk_frozen BK138.out 3))
       refine bodyPost_ret (results_ctt rfl _ _ gb138 23 #[.int .i64 0, .int .i64 0, .int .i64 0, .string (⟨#[]⟩ : ByteArray)] (0, 0) _ rfl (bS (blk_put (bS (blk_put (bS (blk_put (bS (blk_put (bS BK138.out) 0 _ rfl)) 1 _ rfl)) 2 _ rfl)) 3 _ rfl)) Try.underlying23 rfl (by kernel_rfl)) rfl ?_
       exact ⟨by first | rfl | (simp [errW_none, errW_some] <;> rfl) | (simp [*, errW_none, errW_some] <;> rfl), by repeat (first | (with_reducible first | exact HB.out | apply below_alloc | apply pw_below_drewN | apply below_drew1 | refine below_set ?_ GE138.out) | exact HB.out)⟩
     ·rw [if_neg c11] at H
      have c11b0 : (t141 == 0) = false := beq_eq_false_iff_ne.mpr c11
      have c11b1 : (t141 != 0) = true := bne_iff_ne.mpr c11
      simp only [Option.some.injEq, Prod.mk.injEq] at H
      obtain ⟨rfl, rfl, rfl, rfl, rfl, rfl⟩ := H
      go_wp2_with (first | ((with_reducible refine gate_callee (f := 42) rfl ?_); refine goesL_ (some 34) rfl rfl Try.func42 (by kernel_rfl) rfl #[.string a0, .int .i64 (wrap64 (a1 + 2))] rfl (by (try simp only [List.map_toArray, List.map_cons, List.map_nil]); first | done | rfl | (simp only [List.length_drop, List.length_take]; rfl)) ?_; (with_reducible refine (varint_Get.calls a0 (wrap64 (a1 + 2)) t139 t140 t141 _ A10.out).mono ?_); rintro e w' ⟨rfl, ⟨nd, rfl⟩⟩; refine ⟨_, rfl, ?_⟩; (try (rw [drewN_self wc]; generalize hq_ : World.drewN wc _ = wc; have n0_ : Aside0 (wc.heap[gb138]? = some (.cells #[.int .i64 0, .int .i64 0, .int .i64 0, .string (⟨#[]⟩ : ByteArray)] 23 (0, 0))) := ⟨by rw [← hq_]; exact (bS BK138.out)⟩; have n1_ : Aside0 (Below w.heap.size w wc) := ⟨by rw [← hq_]; exact (hS HB.out)⟩; clear BK138 HB hq_; have BK138 := n0_; have HB := n1_; clear n0_ n1_)); have hcz46_0 : wc.cell? ⟨gb138, 0, none⟩ = some (.int .i64 0) := (blk_cell BK138.out 0).trans rfl; have hcz46_1 : wc.cell? ⟨gb138, 1, none⟩ = some (.int .i64 0) := (blk_cell BK138.out 1).trans rfl; have hcz46_2 : wc.cell? ⟨gb138, 2, none⟩ = some (.int .i64 0) := (blk_cell BK138.out 2).trans rfl; have hcz46_3 : wc.cell? ⟨gb138, 3, none⟩ = some (.string (⟨#[]⟩ : ByteArray)) := (blk_cell BK138.out 3).trans rfl; have hfz46_0 := blk_frozen BK138.out 0; have hfz46_1 := blk_frozen BK138.out 1; have hfz46_2 := blk_frozen BK138.out 2; have hfz46_3 := blk_frozen BK138.out 3))
      refine bodyPost_ret (results_ctt rfl _ _ gb138 23 #[.int .i64 0, .int .i64 0, .int .i64 0, .string (⟨#[]⟩ : ByteArray)] (0, 0) _ rfl (bS (blk_put (bS (blk_put (bS (blk_put (bS (blk_put (bS BK138.out) 0 _ rfl)) 1 _ rfl)) 2 _ rfl)) 3 _ rfl)) Try.underlying23 rfl (by kernel_rfl)) rfl ?_
      exact ⟨by first | rfl | (simp [errW_none, errW_some] <;> rfl) | (simp [*, errW_none, errW_some] <;> rfl), by repeat (first | (with_reducible first | exact HB.out | apply below_alloc | apply pw_below_drewN | apply below_drew1 | refine below_set ?_ GE138.out) | exact HB.out)⟩

end Go.Proofs.Ytjccgdnnnlgeeaa.PA
end

section
/- What the printed functions of varint, and of its reference, answer, in plain numbers. -/
namespace Go.Proofs.Ytjccgdnnnlgeeaa.XV01
open Go.RowKit Go.Proofs.YtjccgdnnnlgeeaaW.PrintWords Go.Proofs.YtjccgdnnnlgeeaaW.PrintLast Go.Proofs.YtjccgdnnnlgeeaaW.PrintMore Go.Proofs.Ytjccgdnnnlgeeaa.PA Go.Proofs.Ytjccgdnnnlgeeaa.XVar Go.Proofs.Ytjccgdnnnlgeeaa.XBytes
set_option linter.unusedVariables false
set_option linter.unusedSimpArgs false

theorem putL : ∀ (d k : Nat) (n : Int) (xs : List Int), 0 ≤ n → n < pw (d + 1) → d < k → xs.length + d + 1 < 140737488355328 → varint_Put.l0 k n xs = some (strOfNums (xs ++ digs (d + 1) n))
 | d, 0, n, xs, _, _, hk, _ => by omega
 | d, k + 1, n, xs, h0, h1, hk, hl => by
  rw [varint_Put.l0, digs]
  by_cases c : n ≥ 128
  ·rw [if_pos c, if_pos (by omega), if_pos c, or128]
   cases d with
   | zero =>
    simp only [pw] at h1
    omega
   | succ d =>
    rw [putL d k (n / 128) _ (by omega) (by simp only [pw] at h1 ⊢; omega) (by omega) (by simp only [List.length_append, List.length_singleton]; omega), List.append_assoc, List.singleton_append]
  ·rw [if_neg c, if_pos (by omega), if_neg c, show n % 256 = n by omega]
theorem tdiv128 (n : Int) (h0 : 0 ≤ n) : Int.tdiv n 128 = n / 128 := Int.tdiv_eq_ediv_of_nonneg h0
theorem tmod128 (n : Int) (h0 : 0 ≤ n) : Int.tmod n 128 = n % 128 := Int.tmod_eq_emod_of_nonneg h0
/-- A number's bytes, as a text. -/
def P (n : Int) : ByteArray := strOfNums (digs 10 n)
theorem pw10 : pw 10 = 1180591620717411303424 := by decide
theorem put_f (k : Nat) (n : Int) (h0 : 0 ≤ n) (h1 : n < 18446744073709551616) (hk : 10 ≤ k) : varint_Put.f k n = some (P n) := by
 unfold varint_Put.f P
 rw [putL 9 k n [] h0 (by rw [pw10]; omega) (by omega) (by simp)]
 rfl
theorem P_size (n : Int) : (P n).size = (digs 10 n).length := strOfNums_size _
theorem P_le (n : Int) : (P n).size ≤ 10 := by rw [P_size]; exact digs_len 10 n
theorem P_pos (n : Int) : 1 ≤ (P n).size := by rw [P_size]; exact digs_pos 9 n
/-- The plain function of both: what is got. -/
def G (s : ByteArray) (p : Int) : Int × Int × Int := if p < 0 ∨ p > (s.size : Int) then (0, 0, 1) else XGet.getGo s p 10 0 0
theorem get_f (s : ByteArray) (p : Int) (hs : s.size ≤ 140737488351232) : varint_Get.f s p = some (G s p) := by
 show XGet.varint_Get.f s p = some (G s p)
 unfold XGet.varint_Get.f G
 rw [if_pos hs]
/-- The plain function of both: what is taken. -/
def T (s : ByteArray) (p m : Int) : ByteArray × Int × Int :=
 if (G s p).2.2 = 0 then
  if m < 0 ∨ (G s p).1 > m then (⟨#[]⟩, 0, 3) else if (G s p).1 > s.size - (G s p).2.1 then (⟨#[]⟩, 0, 2) else (s.extract (G s p).2.1.toNat ((G s p).2.1 + (G s p).1).toNat, (G s p).2.1 + (G s p).1, 0)
 else (⟨#[]⟩, 0, (G s p).2.2)
theorem G_shape (s : ByteArray) (p : Int) : (∃ e, G s p = (0, 0, e) ∧ (e = 1 ∨ e = 2 ∨ e = 3)) ∨ ∃ n q, G s p = (n, q, 0) ∧ 0 ≤ p ∧ p < q ∧ q ≤ s.size ∧ 0 ≤ n ∧ n < 18446744073709551616 ∧ q = p + (digs 10 n).length ∧ Stands s p (digs 10 n) := by
 unfold G
 by_cases c : p < 0 ∨ p > (s.size : Int)
 ·rw [if_pos c]
  exact .inl ⟨1, rfl, by omega⟩
 ·rw [if_neg c]
  rcases get_shape s p 10 0 0 (by omega) (by omega) with ⟨e, h, he⟩ | ⟨n, q, h, h1, h2⟩
  ·exact .inl ⟨e, h, by omega⟩
  ·obtain ⟨m, hm, hn, hlt, _, hq, hs⟩ := put_of_get s p 10 0 0 n q (by omega) (by omega) (by simp [pw]) (by omega) (by omega) h
   have e : n = m := by simp [pw] at hn; omega
   subst e
   refine .inr ⟨n, q, h, by omega, by omega, h2, hm, hlt, ?_, ?_⟩
   ·simpa using hq
   ·simpa using hs
theorem wrap_i64_u64 (n : Int) (h0 : 0 ≤ n) (h1 : n ≤ 9223372036854775807) : IntKind.u64.wrap n = n := wrap_u64 n h0 (by omega)
theorem take_f (k : Nat) (s : ByteArray) (p m : Int) (hs : s.size ≤ 140737488351232) (hm : m ≤ 9223372036854775807) (hk : 30 ≤ k) : varint_Take.f k s p m = some (T s p m) := by
 obtain ⟨k, rfl⟩ : ∃ m, k = m + 1 := ⟨k - 1, by omega⟩
 unfold varint_Take.f T
 rw [get_f s p hs]
 simp only [Option.bind_some]
 by_cases c : (G s p).2.2 = 0
 ·rw [if_pos c, if_pos c]
  rcases G_shape s p with ⟨e, h, he⟩ | ⟨n, q, h, hp, h1, h2, h3, h4, _⟩
  ·rw [h] at c
   simp only at c
   omega
  ·rw [h]
   simp only
   have key : ∀ b : Bool, (b = true ↔ (m < 0 ∨ n > m)) → varint_Take.j0 (k + 1) s n q b = some (if m < 0 ∨ n > m then (⟨#[]⟩, 0, 3) else if n > s.size - q then (⟨#[]⟩, 0, 2) else (s.extract q.toNat (q + n).toNat, q + n, 0)) := by
    intro b hb
    rw [varint_Take.j0]
    by_cases c1 : m < 0 ∨ n > m
    ·rw [if_pos (hb.2 c1), if_pos c1]
    ·rw [if_neg (fun h => c1 (hb.1 h)), if_neg c1, wrap_id (s.size - q) (by omega) (by omega), wrap_u64 _ (by omega) (by omega)]
     by_cases c2 : n > s.size - q
     ·rw [if_pos c2, if_pos c2]
     ·rw [if_neg c2, if_neg c2, wrap_id n (by omega) (by omega), wrap_id (q + n) (by omega) (by omega), if_pos (by omega), if_pos (by omega), if_pos (by omega)]
   by_cases c1 : m < 0
   ·rw [if_pos c1, key true (by simp [c1])]
   ·rw [if_neg c1, key _ (by simp [c1]; rw [wrap_u64 m (by omega) (by omega)])]
 ·rw [if_neg c, if_neg c]
theorem G_put (s : ByteArray) (p n : Int) (hp : 0 ≤ p) (h0 : 0 ≤ n) (h1 : n < 18446744073709551616) (h : Stands s p (digs 10 n)) : G s p = (n, p + (P n).size, 0) := by
 unfold G
 have hl := h.1
 rw [if_neg (by omega), P_size]
 have := get_of_put s p 10 0 0 n (by omega) (by omega) (by omega) (by simp [pw]) h0 (by simpa [pw] using h1) (fun _ => rfl) (by simpa using h)
 simpa [pw] using this
theorem P_stands (n : Int) (h0 : 0 ≤ n) : Stands (P n) 0 (digs 10 n) := stands_nums _ (digs_range 10 n h0)
theorem P_in (a b : ByteArray) (n : Int) (h0 : 0 ≤ n) : Stands ((a ++ P n) ++ b) (a.size : Int) (digs 10 n) := by
 have := stands_more (stands_app (P_stands n h0) (Int.le_refl 0) a) (by omega) b
 rwa [Int.add_zero] at this
end Go.Proofs.Ytjccgdnnnlgeeaa.XV01
end

section
/- Texts one behind the other, in plain lists; what is got and taken of them. No program is in sight but the plain functions G and T. -/
namespace Go.Proofs.Ytjccgdnnnlgeeaa.XCat
open Go.RowKit Go.Proofs.YtjccgdnnnlgeeaaW.PrintWords Go.Proofs.YtjccgdnnnlgeeaaW.PrintLast Go.Proofs.Ytjccgdnnnlgeeaa.XVar Go.Proofs.Ytjccgdnnnlgeeaa.XBytes Go.Proofs.Ytjccgdnnnlgeeaa.XV01
set_option linter.unusedVariables false

def cat : List ByteArray → ByteArray
 | [] => ⟨#[]⟩
 | a :: r => a ++ cat r
theorem nil_app (a : ByteArray) : (⟨#[]⟩ : ByteArray) ++ a = a := ba_ext (by rw [app_data]; rfl)
theorem app_nil (a : ByteArray) : a ++ (⟨#[]⟩ : ByteArray) = a := ba_ext (by rw [app_data]; simp)
theorem cat_size (l : List ByteArray) (B : Nat) (h : ∀ a ∈ l, a.size ≤ B) : (cat l).size ≤ l.length * B := by
 induction l with
 | nil => show (0 : Nat) ≤ _; omega
 | cons x r ih =>
  rw [cat, app_size]
  have h1 := h x (List.mem_cons_self ..)
  have h2 := ih (fun a ha => h a (List.mem_cons_of_mem _ ha))
  rw [List.length_cons, Nat.add_mul]
  omega
theorem G_end (s : ByteArray) : G s s.size = (0, 0, 2) := by
 unfold G
 rw [if_neg (by omega), XGet.getGo, if_pos (by omega)]
/-- A text behind its length. -/
def X (s : ByteArray) : ByteArray := P s.size ++ s
theorem X_size (s : ByteArray) : (X s).size = (P s.size).size + s.size := app_size ..
theorem ext_mid (a b c : ByteArray) : ((a ++ b) ++ c).extract a.size (a.size + b.size) = b := by
 apply ba_ext
 rw [ext_data, app_data, app_data, List.append_assoc, List.drop_append_of_le_length (by rw [← size_len]; omega), List.drop_of_length_le (by rw [← size_len]; omega), List.nil_append, show a.size + b.size - a.size = b.size by omega, List.take_append_of_le_length (by rw [← size_len]; omega), List.take_of_length_le (by rw [← size_len]; omega)]
theorem T_text (a s b : ByteArray) (m : Int) (h0 : (s.size : Int) ≤ m) (h2 : s.size ≤ 140737488351232) : T ((a ++ X s) ++ b) a.size m = (s, (a.size : Int) + (X s).size, 0) := by
 have e : ((a ++ X s) ++ b) = ((a ++ P s.size) ++ (s ++ b)) := by unfold X; simp only [app_assoc]
 have e2 : ((a ++ X s) ++ b) = (((a ++ P s.size) ++ s) ++ b) := by unfold X; simp only [app_assoc]
 have hG := G_put ((a ++ X s) ++ b) a.size s.size (by omega) (by omega) (by omega) (by rw [e]; exact P_in a (s ++ b) (s.size : Int) (by omega))
 unfold T
 rw [hG]
 simp only
 rw [if_pos trivial, if_neg (by omega), if_neg (by rw [app_size, app_size, X_size]; omega)]
 have e3 : ((a ++ X s) ++ b).extract ((a.size : Int) + (P s.size).size).toNat ((a.size : Int) + (P s.size).size + s.size).toNat = s := by
  rw [e2, show ((a.size : Int) + (P s.size).size).toNat = (a ++ P s.size).size by rw [app_size]; omega, show ((a.size : Int) + (P s.size).size + s.size).toNat = (a ++ P s.size).size + s.size by rw [app_size]; omega]
  exact ext_mid _ _ _
 rw [e3, X_size]
 simp only [Prod.mk.injEq, true_and, and_true]
 omega
end Go.Proofs.Ytjccgdnnnlgeeaa.XCat
end

section
/- A presence as bytes, in plain functions: what the printed functions of value, and of its reference, answer. -/
namespace Go.Proofs.Ytjccgdnnnlgeeaa.XV04
open Go.RowKit Go.Proofs.Ytjccgdnnnlgeeaa.PA Go.Proofs.YtjccgdnnnlgeeaaW.PrintWords Go.Proofs.YtjccgdnnnlgeeaaW.PrintLast Go.Proofs.Ytjccgdnnnlgeeaa.XVar Go.Proofs.Ytjccgdnnnlgeeaa.XBytes Go.Proofs.Ytjccgdnnnlgeeaa.XV01 Go.Proofs.Ytjccgdnnnlgeeaa.XCat
open Go.Proofs.Ytjccgdnnnlgeeaa.XMay (mayB numsB)
open Go.Proofs.Ytjccgdnnnlgeeaa.XOdd (odd)
set_option linter.unusedVariables false
set_option linter.unusedSimpArgs false
theorem may_nums {a0 a1 a2 : Int} {a3 : ByteArray} (h : mayB a0 a1 a2 a3 = true) : 1 ≤ a0 ∧ a0 ≤ 4 ∧ -128 ≤ a1 ∧ a1 ≤ 127 ∧ 0 ≤ a2 ∧ a2 ≤ 1099511627776 ∧ a3.size ≤ 32 := by
 unfold mayB at h
 by_cases c : numsB a0 a1 a2 a3
 ·exact c
 ·rw [if_neg c] at h; cases h
theorem may_off {a0 a1 a2 : Int} {a3 : ByteArray} (h : ¬ (1 ≤ a0 ∧ a0 ≤ 4 ∧ -128 ≤ a1 ∧ a1 ≤ 127 ∧ 0 ≤ a2 ∧ a2 ≤ 1099511627776 ∧ a3.size ≤ 32)) : mayB a0 a1 a2 a3 = false := by
 unfold mayB
 rw [if_neg (show ¬ numsB a0 a1 a2 a3 from h)]
theorem may_f (a0 a1 a2 : Int) (a3 : ByteArray) : value_May.f a0 a1 a2 a3 = some (mayB a0 a1 a2 a3) := rfl
/-- The bytes of a value that may be. -/
def Vb (a0 a1 a2 : Int) (a3 : ByteArray) : ByteArray := (strOfNums [a0, a1 + 128] ++ P a2) ++ X a3
theorem Vb_size (a0 a1 a2 : Int) (a3 : ByteArray) : (Vb a0 a1 a2 a3).size = 2 + (P a2).size + ((P a3.size).size + a3.size) := by
 unfold Vb
 rw [app_size, app_size, strOfNums_size, X_size]
 rfl
def PV (a0 a1 a2 : Int) (a3 : ByteArray) : ByteArray × Bool := if mayB a0 a1 a2 a3 = true then (Vb a0 a1 a2 a3, true) else (⟨#[]⟩, false)
abbrev R6 := Int × Int × Int × ByteArray × Int × Int
def er (e : Int) : R6 := (0, 0, 0, ⟨#[]⟩, 0, e)
def VT (s : ByteArray) (p : Int) : R6 :=
 if p < 0 ∨ p > (s.size : Int) then er 1 else if s.size - p < 2 then er 2 else
 if (G s (p + 2)).2.2 = 0 then
  if (T s (G s (p + 2)).2.1 32).2.2 = 0 then
   if mayB (bt s p) (bt s (p + 1) - 128) (G s (p + 2)).1 (T s (G s (p + 2)).2.1 32).1 = true then (bt s p, bt s (p + 1) - 128, (G s (p + 2)).1, (T s (G s (p + 2)).2.1 32).1, (T s (G s (p + 2)).2.1 32).2.1, 0) else er 3
  else er (T s (G s (p + 2)).2.1 32).2.2
 else er (G s (p + 2)).2.2
theorem wrap_bt (s : ByteArray) (i : Int) : wrap64 (bt s i) = bt s i := by have := bt_range s i; exact wrap_id _ (by omega) (by omega)
theorem take_v (k : Nat) (s : ByteArray) (p : Int) (hs : s.size ≤ 140737488351232) (hp : -9223372036854775808 ≤ p ∧ p ≤ 9223372036854775807) (hk : 31 ≤ k) : value_Take.f k s p = some (VT s p) := by
 obtain ⟨k, rfl⟩ : ∃ m, k = m + 1 := ⟨k - 1, by omega⟩
 have key : ∀ q : Bool, (q = true ↔ (p < 0 ∨ p > (s.size : Int))) → value_Take.j0 (k + 1) s p q = some (VT s p) := by
  intro q hq
  rw [value_Take.j0]
  unfold VT
  by_cases c : p < 0 ∨ p > (s.size : Int)
  ·rw [if_pos (hq.2 c), if_pos c]; rfl
  ·rw [if_neg (fun h => c (hq.1 h)), if_neg c, wrap_id (s.size - p) (by omega) (by omega)]
   by_cases c2 : (s.size : Int) - p < 2
   ·rw [if_pos c2, if_pos c2]; rfl
   ·rw [if_neg c2, if_neg c2, wrap_id (p + 2) (by omega) (by omega), get_f s (p + 2) hs]
    simp only [Option.bind_some]
    by_cases c3 : (G s (p + 2)).2.2 = 0
    ·rw [if_pos c3, if_pos c3, take_f k s _ 32 hs (by omega) (by omega)]
     simp only [Option.bind_some]
     by_cases c4 : (T s (G s (p + 2)).2.1 32).2.2 = 0
     ·have h1 := bt_range s (p + 1)
      rw [if_pos c4, if_pos c4, if_pos (by omega), if_pos (by omega), wrap_id (p + 1) (by omega) (by omega), if_pos (by omega), if_pos (by omega), wrap_bt, wrap_bt, wrap_id (bt s (p + 1) + -128) (by omega) (by omega), may_f]
      simp only [Option.bind_some]
      rw [show bt s (p + 1) + -128 = bt s (p + 1) - 128 by omega]
      rcases G_shape s (p + 2) with ⟨e, h, he⟩ | ⟨n, q, h, hp, h1, h2, h3, h4, _⟩
      ·rw [h] at c3; simp only at c3; omega
      ·rw [h]
       simp only
       have hmn : wrap64 (mn n 1099511627777) = if n ≤ 1099511627776 then n else 1099511627777 := by
        unfold mn
        split
        ·rw [wrap_id 1099511627777 (by omega) (by omega)]; split <;> omega
        ·rw [wrap_id n (by omega) (by omega)]; split <;> omega
       rw [hmn]
       by_cases c5 : n ≤ 1099511627776
       ·rw [if_pos c5]; split <;> rfl
       ·rw [if_neg c5, may_off (by omega), may_off (by omega)]; rfl
     ·rw [if_neg c4, if_neg c4]; rfl
    ·rw [if_neg c3, if_neg c3]; rfl
 unfold value_Take.f
 by_cases c : p < 0
 ·rw [if_pos c, key true (by simp [c])]
 ·rw [if_neg c, key _ (by simp [c])]
/-- What is put is taken, wherever it stands. -/
theorem VT_put (a b : ByteArray) (a0 a1 a2 : Int) (a3 : ByteArray) (h : mayB a0 a1 a2 a3 = true) : VT ((a ++ Vb a0 a1 a2 a3) ++ b) a.size = (a0, a1, a2, a3, (a.size : Int) + (Vb a0 a1 a2 a3).size, 0) := by
 obtain ⟨h1, h2, h3, h4, h5, h6, h7⟩ := may_nums h
 have hsz := Vb_size a0 a1 a2 a3
 have e1 : ((a ++ Vb a0 a1 a2 a3) ++ b) = (((a ++ strOfNums [a0, a1 + 128]) ++ P a2) ++ (X a3 ++ b)) := by unfold Vb; simp only [app_assoc]
 have e2 : ((a ++ Vb a0 a1 a2 a3) ++ b) = ((((a ++ strOfNums [a0, a1 + 128]) ++ P a2) ++ X a3) ++ b) := by unfold Vb; simp only [app_assoc]
 have e3 : ((a ++ Vb a0 a1 a2 a3) ++ b) = ((a ++ strOfNums [a0, a1 + 128]) ++ ((P a2 ++ X a3) ++ b)) := by unfold Vb; simp only [app_assoc]
 have hr : ∀ x ∈ [a0, a1 + 128], 0 ≤ x ∧ x ≤ 255 := by intro x hx; simp at hx; omega
 have hst : Stands ((a ++ Vb a0 a1 a2 a3) ++ b) (a.size : Int) [a0, a1 + 128] := by
  rw [e3]
  have := stands_more (stands_app (stands_nums _ hr) (Int.le_refl 0) a) (by omega) ((P a2 ++ X a3) ++ b)
  rwa [Int.add_zero] at this
 have b0 : bt ((a ++ Vb a0 a1 a2 a3) ++ b) (a.size : Int) = a0 := hst.head
 have b1 : bt ((a ++ Vb a0 a1 a2 a3) ++ b) ((a.size : Int) + 1) = a1 + 128 := hst.tail.head
 have n2 : (a ++ strOfNums [a0, a1 + 128]).size = a.size + 2 := by rw [app_size, strOfNums_size]; rfl
 have hG : G ((a ++ Vb a0 a1 a2 a3) ++ b) ((a.size : Int) + 2) = (a2, (a.size : Int) + 2 + (P a2).size, 0) := by
  refine G_put _ _ a2 (by omega) h5 (by omega) ?_
  rw [e1]
  have := P_in (a ++ strOfNums [a0, a1 + 128]) (X a3 ++ b) a2 h5
  rwa [n2] at this
 have n3 : ((a ++ strOfNums [a0, a1 + 128]) ++ P a2).size = a.size + 2 + (P a2).size := by rw [app_size, n2]
 have hT : T ((a ++ Vb a0 a1 a2 a3) ++ b) ((a.size : Int) + 2 + (P a2).size) 32 = (a3, (a.size : Int) + 2 + (P a2).size + (X a3).size, 0) := by
  rw [e2]
  have := T_text ((a ++ strOfNums [a0, a1 + 128]) ++ P a2) a3 b 32 (by omega) (by omega)
  rw [n3] at this
  exact this
 have hX := X_size a3
 unfold VT
 rw [if_neg (by rw [app_size, app_size]; omega), if_neg (by rw [app_size, app_size]; omega), hG]
 simp only
 rw [if_pos trivial, hT]
 simp only
 rw [if_pos trivial, b0, b1, show a1 + 128 - 128 = a1 by omega, if_pos h]
 simp only [Prod.mk.injEq, true_and, and_true]
 omega
theorem T_shape (s : ByteArray) (q m : Int) : (∃ e, T s q m = (⟨#[]⟩, 0, e) ∧ e ≠ 0) ∨ ∃ n q', T s q m = (s.extract q'.toNat (q' + n).toNat, q' + n, 0) ∧ 0 ≤ q ∧ q < q' ∧ q' + n ≤ s.size ∧ 0 ≤ n ∧ n ≤ m ∧ n < 18446744073709551616 ∧ q' = q + (digs 10 n).length ∧ Stands s q (digs 10 n) := by
 unfold T
 rcases G_shape s q with ⟨e, h, he⟩ | ⟨n, q', h, hp, h1, h2, h3, h4, hq, hst⟩
 ·rw [h]
  simp only
  rw [if_neg (by omega)]
  exact .inl ⟨e, rfl, by omega⟩
 ·rw [h]
  simp only
  rw [if_pos trivial]
  by_cases c : m < 0 ∨ n > m
  ·rw [if_pos c]; exact .inl ⟨3, rfl, by omega⟩
  ·rw [if_neg c]
   by_cases c2 : n > s.size - q'
   ·rw [if_pos c2]; exact .inl ⟨2, rfl, by omega⟩
   ·rw [if_neg c2]
    exact .inr ⟨n, q', rfl, by omega, by omega, by omega, by omega, by omega, h4, hq, hst⟩
/-- What is taken is what was put. -/
theorem VT_shape (s : ByteArray) (p : Int) (hs : s.size ≤ 140737488351232) : (∃ e, VT s p = er e ∧ e ≠ 0) ∨ ∃ a0 a1 a2 a3 q, VT s p = (a0, a1, a2, a3, q, 0) ∧ mayB a0 a1 a2 a3 = true ∧ 0 ≤ p ∧ p < q ∧ q ≤ s.size ∧ s.extract p.toNat q.toNat = Vb a0 a1 a2 a3 := by
 unfold VT
 by_cases c : p < 0 ∨ p > (s.size : Int)
 ·rw [if_pos c]; exact .inl ⟨1, rfl, by omega⟩
 rw [if_neg c]
 by_cases c2 : (s.size : Int) - p < 2
 ·rw [if_pos c2]; exact .inl ⟨2, rfl, by omega⟩
 rw [if_neg c2]
 rcases G_shape s (p + 2) with ⟨e, h, he⟩ | ⟨n, q, h, hp, h1, h2, h3, h4, hq, hst⟩
 ·rw [h]; simp only; rw [if_neg (by omega)]; exact .inl ⟨e, rfl, by omega⟩
 rw [h]
 simp only
 rw [if_pos trivial]
 rcases T_shape s q 32 with ⟨e, h', he⟩ | ⟨n', q', h', hp', h1', h2', h3', h4', h5', hq', hst'⟩
 ·rw [h']; simp only; rw [if_neg he]; exact .inl ⟨e, rfl, he⟩
 rw [h']
 simp only
 rw [if_pos trivial]
 by_cases c5 : mayB (bt s p) (bt s (p + 1) - 128) n (s.extract q'.toNat (q' + n').toNat) = true
 ·rw [if_pos c5]
  refine .inr ⟨_, _, _, _, _, rfl, c5, by omega, by omega, by omega, ?_⟩
  have hw := cut_of_stands (by omega) hst
  rw [← hq] at hw
  have hw' := cut_of_stands (by omega) hst'
  rw [← hq'] at hw'
  have hb0 := bt_range s p
  have hb1 := bt_range s (p + 1)
  have h20 : Stands s p [bt s p, bt s (p + 1)] := by
   refine ⟨by simp; omega, fun j hj => ?_⟩
   simp at hj
   rcases (show j = 0 ∨ j = 1 by omega) with rfl | rfl
   ·simp
   ·simp
  have hw0 := cut_of_stands (by omega) h20
  have hn : (s.extract q'.toNat (q' + n').toNat).size = n'.toNat := by rw [ext_size]; omega
  unfold Vb X P
  rw [hn, show ((n'.toNat : Nat) : Int) = n' by omega, ← hw, ← hw', show bt s (p + 1) - 128 + 128 = bt s (p + 1) by omega, ← hw0]
  apply ba_ext
  simp only [app_data, ext_data, List.length_cons, List.length_nil]
  generalize s.data.toList = l
  obtain ⟨p, rfl⟩ := Int.eq_ofNat_of_zero_le (show 0 ≤ p by omega)
  obtain ⟨q, rfl⟩ := Int.eq_ofNat_of_zero_le (show 0 ≤ q by omega)
  obtain ⟨q', rfl⟩ := Int.eq_ofNat_of_zero_le (show 0 ≤ q' by omega)
  obtain ⟨n', rfl⟩ := Int.eq_ofNat_of_zero_le (show 0 ≤ n' by omega)
  have key : ∀ (a b c : Nat), a ≤ b → b ≤ c → (l.drop a).take (c - a) = (l.drop a).take (b - a) ++ (l.drop b).take (c - b) := by
   intro a b c h1 h2
   rw [show c - a = (b - a) + (c - b) by omega, List.take_add, List.drop_drop, show a + (b - a) = b by omega]
  have t1 : (((p : Int) + 2).toNat) = p + 2 := by omega
  have t2 : (((q' : Int) + (n' : Int)).toNat) = q' + n' := by omega
  have t3 : (((p : Int) + ((0 + 1 + 1 : Nat) : Int)).toNat) = p + 2 := by omega
  simp only [t1, t2, t3, Int.toNat_natCast]
  rw [key p (p + 2) (q' + n') (by omega) (by omega), key (p + 2) q (q' + n') (by omega) (by omega), key q q' (q' + n') (by omega) (by omega)]
  simp only [List.append_assoc]
 ·rw [if_neg c5]; exact .inl ⟨3, rfl, by omega⟩
end Go.Proofs.Ytjccgdnnnlgeeaa.XV04
end
