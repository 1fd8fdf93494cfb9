-- Written by a program of this session (wip/tools/xprint.py), which drives the kit's print.
import Derived.Test.YthcmelchgnekpaaPAx0
import Derived.Test.YthcmelchgnekpaaPAx2
import Derived.Test.YthcmelchgnekpaaPAx4
import Derived.Test.YthcmelchgnekpaaPAx5
import Derived.Test.YthcmelchgnekpaaPAx6
import Derived.Test.YthcmelchgnekpaaPAx8
import Derived.Test.YthcmelchgnekpaaPAx9
namespace Go.Proofs.Ythcmelchgnekpaa.PA
open Go.RowKit Go.Proofs.YthcmelchgnekpaaW.PrintWords Go.Proofs.YthcmelchgnekpaaW.PrintLast Go.Proofs.YthcmelchgnekpaaW.PrintMore
attribute [local go_sem] max2_int min2_int max_two min_two max_three min_three max_four min_four   -- for this text's walks alone
set_option linter.unusedVariables false
set_option linter.unusedSimpArgs false

attribute [local go_sem high] eqA33
/-! ### rollcalllaw17_QueueMay: function 5 -/
mutual
def rollcalllaw17_QueueMay.j0 : Nat → Int → Bool → List (S33) → Bool → ByteArray → Bool → Int → Int → Int → ByteArray → Option (Bool)
  | 0, _, _, _, _, _, _, _, _, _, _ => none
  | k + 1, x2, x40, x403000, x403001, x404000, x404001, x404002, x404003, x404004, x404005 => if x40 = true then ((rollcalllaw17_live.f k).bind fun t411 => (some t411)) else ((queue_Push.f x403000 x403001 x404000 x404001 x404002 x404003 x404004 x404005 x2).bind fun bt412 => ((queue_May.f k bt412.1 bt412.2 x2).bind fun t417 => (if t417 = true then (if bt412.2 = true then ((queue_Find.f x403000 x403001 x404000).bind fun bt418 => (if (bt412.1.length : Int) = 0 then (if x403001 = true then ((rollcalllaw17_live.f k).bind fun t426 => (some t426)) else (if bt418.2.2.2.2.2.2 = true then (some false) else (if (x403000.length : Int) = x2 then ((rollcalllaw17_live.f k).bind fun t427 => (some t427)) else (some false)))) else (some false))) else ((queue_Find.f bt412.1 bt412.2 x404000).bind fun bt428 => (if bt428.2.2.2.2.2.2 = true then (if (!(bt428.1.toList == x404000.toList) || (!(bt428.2.1 == x404001) || ((!(bt428.2.2.1 == x404002) || (!(bt428.2.2.2.1 == x404003) || (!(bt428.2.2.2.2.1 == x404004) || (!(bt428.2.2.2.2.2.1.toList == x404005.toList)))))))) = true then (rollcalllaw17_QueueMay.j1 k true x403000 x403001 x404000 x404001 x404002 x404003 x404004 x404005 bt412.1 bt412.2) else (if x403001 = true then (rollcalllaw17_QueueMay.j1 k true x403000 x403001 x404000 x404001 x404002 x404003 x404004 x404005 bt412.1 bt412.2) else (if (bt412.1.length : Int) < (x403000.length : Int) then (rollcalllaw17_QueueMay.j1 k true x403000 x403001 x404000 x404001 x404002 x404003 x404004 x404005 bt412.1 bt412.2) else (rollcalllaw17_QueueMay.j1 k (decide ((bt412.1.length : Int) > (wrap64 ((x403000.length : Int) + 1)))) x403000 x403001 x404000 x404001 x404002 x404003 x404004 x404005 bt412.1 bt412.2)))) else (rollcalllaw17_QueueMay.j1 k true x403000 x403001 x404000 x404001 x404002 x404003 x404004 x404005 bt412.1 bt412.2)))) else (some false))))
def rollcalllaw17_QueueMay.j1 : Nat → Bool → List (S33) → Bool → ByteArray → Bool → Int → Int → Int → ByteArray → List (S33) → Bool → Option (Bool)
  | 0, _, _, _, _, _, _, _, _, _, _, _ => none
  | k + 1, x117, x403000, x403001, x404000, x404001, x404002, x404003, x404004, x404005, x417000, x417001 => if x117 = true then (some false) else (rollcalllaw17_QueueMay.l0 k 0 x403000 x403001 x404000 x404001 x404002 x404003 x404004 x404005 x417000 x417001)
def rollcalllaw17_QueueMay.l0 : Nat → Int → List (S33) → Bool → ByteArray → Bool → Int → Int → Int → ByteArray → List (S33) → Bool → Option (Bool)
  | 0, _, _, _, _, _, _, _, _, _, _, _ => none
  | k + 1, x12, x403000, x403001, x404000, x404001, x404002, x404003, x404004, x404005, x417000, x417001 => if x12 < (x403000.length : Int) then (if 0 ≤ x12 then (if x12 < (x417000.length : Int) then (if ((rd_T33 x417000 x12).f0).toList = ((rd_T33 x403000 x12).f0).toList then (if ((rd_T33 x403000 x12).f0).toList = x404000.toList then (rollcalllaw17_QueueMay.l0 k (wrap64 (x12 + 1)) x403000 x403001 x404000 x404001 x404002 x404003 x404004 x404005 x417000 x417001) else (if (!((((rd_T33 x417000 x12).f0).toList) == (((rd_T33 x403000 x12).f0).toList)) || (!(((rd_T33 x417000 x12).f1) == ((rd_T33 x403000 x12).f1)) || ((!(((rd_T33 x417000 x12).f2.f0) == ((rd_T33 x403000 x12).f2.f0)) || (!(((rd_T33 x417000 x12).f2.f1) == ((rd_T33 x403000 x12).f2.f1)) || (!(((rd_T33 x417000 x12).f2.f2) == ((rd_T33 x403000 x12).f2.f2)) || (!((((rd_T33 x417000 x12).f2.f3).toList) == (((rd_T33 x403000 x12).f2.f3).toList))))))))) = true then (some false) else (rollcalllaw17_QueueMay.l0 k (wrap64 (x12 + 1)) x403000 x403001 x404000 x404001 x404002 x404003 x404004 x404005 x417000 x417001))) else (some false)) else (none)) else (none)) else ((rollcalllaw17_live.f k).bind fun t441 => (some t441))
end
def rollcalllaw17_QueueMay.f (k : Nat) (l0_0 : List (S33)) (a0_1 : Bool) (a1_0 : ByteArray) (a1_1 : Bool) (a1_2 : Int) (a1_3 : Int) (a1_4 : Int) (a1_5 : ByteArray) (a2 : Int) : Option (Bool) := if a2 < 1 then (rollcalllaw17_QueueMay.j0 k a2 true l0_0 a0_1 a1_0 a1_1 a1_2 a1_3 a1_4 a1_5) else (if a2 > 16 then (rollcalllaw17_QueueMay.j0 k a2 true l0_0 a0_1 a1_0 a1_1 a1_2 a1_3 a1_4 a1_5) else ((rollcallref17_Few.f k l0_0 a0_1).bind fun t404 => (if t404 = true then ((rollcallref17_May.f k l0_0 a0_1 a2).bind fun t405 => (if t405 = true then ((rollcallref17_Changes.f k (([(⟨a1_0, a1_1, (⟨a1_2, a1_3, a1_4, a1_5⟩ : S31)⟩ : S33)] : List (S33))) 1).bind fun t409 => (if t409 = true then ((rollcallref17_One.f k a1_0 a1_1 a1_2 a1_3 a1_4 a1_5).bind fun t410 => (rollcalllaw17_QueueMay.j0 k a2 (!t410) l0_0 a0_1 a1_0 a1_1 a1_2 a1_3 a1_4 a1_5)) else (rollcalllaw17_QueueMay.j0 k a2 true l0_0 a0_1 a1_0 a1_1 a1_2 a1_3 a1_4 a1_5))) else (rollcalllaw17_QueueMay.j0 k a2 true l0_0 a0_1 a1_0 a1_1 a1_2 a1_3 a1_4 a1_5))) else (rollcalllaw17_QueueMay.j0 k a2 true l0_0 a0_1 a1_0 a1_1 a1_2 a1_3 a1_4 a1_5))))
theorem rollcalllaw17_QueueMay.mono_l : ∀ k, (∀ y0 y1 y2 y3 y4 y5 y6 y7 y8 y9, LeO (rollcalllaw17_QueueMay.j0 k y0 y1 y2 y3 y4 y5 y6 y7 y8 y9) (rollcalllaw17_QueueMay.j0 (k + 1) y0 y1 y2 y3 y4 y5 y6 y7 y8 y9)) ∧ (∀ y0 y1 y2 y3 y4 y5 y6 y7 y8 y9 y10, LeO (rollcalllaw17_QueueMay.j1 k y0 y1 y2 y3 y4 y5 y6 y7 y8 y9 y10) (rollcalllaw17_QueueMay.j1 (k + 1) y0 y1 y2 y3 y4 y5 y6 y7 y8 y9 y10)) ∧ (∀ y0 y1 y2 y3 y4 y5 y6 y7 y8 y9 y10, LeO (rollcalllaw17_QueueMay.l0 k y0 y1 y2 y3 y4 y5 y6 y7 y8 y9 y10) (rollcalllaw17_QueueMay.l0 (k + 1) y0 y1 y2 y3 y4 y5 y6 y7 y8 y9 y10))
  | 0 => ⟨fun _ _ _ _ _ _ _ _ _ _ r h => by simp [rollcalllaw17_QueueMay.j0] at h, fun _ _ _ _ _ _ _ _ _ _ _ r h => by simp [rollcalllaw17_QueueMay.j1] at h, fun _ _ _ _ _ _ _ _ _ _ _ r h => by simp [rollcalllaw17_QueueMay.l0] at h⟩
  | k + 1 => by
    obtain ⟨ih0, ih1, ih2⟩ := rollcalllaw17_QueueMay.mono_l k
    refine ⟨?_, ?_, ?_⟩
    · intro y0 y1 y2 y3 y4 y5 y6 y7 y8 y9
      unfold rollcalllaw17_QueueMay.j0
      repeat' first
      | (with_reducible exact ih0 _ _ _ _ _ _ _ _ _ _)
      | (with_reducible exact ih1 _ _ _ _ _ _ _ _ _ _ _)
      | (with_reducible exact ih2 _ _ _ _ _ _ _ _ _ _ _)
      | (with_reducible exact queue_May.mono _ _ _ _)
      | (with_reducible exact rollcalllaw17_live.mono _)
      | (with_reducible exact rollcallref17_Changes.mono _ _ _)
      | (with_reducible exact rollcallref17_Few.mono _ _ _)
      | (with_reducible exact rollcallref17_May.mono _ _ _ _)
      | (with_reducible exact rollcallref17_One.mono _ _ _ _ _ _ _)
      | (with_reducible exact LeO.refl _)
      | (with_reducible exact LeO.none _)
      | (with_reducible refine LeO.ite ?_ ?_)
      | (with_reducible refine LeO.bind ?_ (fun _ => ?_))
      | exact ih0 _ _ _ _ _ _ _ _ _ _
      | exact ih1 _ _ _ _ _ _ _ _ _ _ _
      | exact ih2 _ _ _ _ _ _ _ _ _ _ _
      | exact queue_May.mono _ _ _ _
      | exact rollcalllaw17_live.mono _
      | exact rollcallref17_Changes.mono _ _ _
      | exact rollcallref17_Few.mono _ _ _
      | exact rollcallref17_May.mono _ _ _ _
      | exact rollcallref17_One.mono _ _ _ _ _ _ _
      | exact LeO.none _
      | refine LeO.ite ?_ ?_
      | refine LeO.bind ?_ (fun _ => ?_)
    · intro y0 y1 y2 y3 y4 y5 y6 y7 y8 y9 y10
      unfold rollcalllaw17_QueueMay.j1
      repeat' first
      | (with_reducible exact ih0 _ _ _ _ _ _ _ _ _ _)
      | (with_reducible exact ih1 _ _ _ _ _ _ _ _ _ _ _)
      | (with_reducible exact ih2 _ _ _ _ _ _ _ _ _ _ _)
      | (with_reducible exact queue_May.mono _ _ _ _)
      | (with_reducible exact rollcalllaw17_live.mono _)
      | (with_reducible exact rollcallref17_Changes.mono _ _ _)
      | (with_reducible exact rollcallref17_Few.mono _ _ _)
      | (with_reducible exact rollcallref17_May.mono _ _ _ _)
      | (with_reducible exact rollcallref17_One.mono _ _ _ _ _ _ _)
      | (with_reducible exact LeO.refl _)
      | (with_reducible exact LeO.none _)
      | (with_reducible refine LeO.ite ?_ ?_)
      | (with_reducible refine LeO.bind ?_ (fun _ => ?_))
      | exact ih0 _ _ _ _ _ _ _ _ _ _
      | exact ih1 _ _ _ _ _ _ _ _ _ _ _
      | exact ih2 _ _ _ _ _ _ _ _ _ _ _
      | exact queue_May.mono _ _ _ _
      | exact rollcalllaw17_live.mono _
      | exact rollcallref17_Changes.mono _ _ _
      | exact rollcallref17_Few.mono _ _ _
      | exact rollcallref17_May.mono _ _ _ _
      | exact rollcallref17_One.mono _ _ _ _ _ _ _
      | exact LeO.none _
      | refine LeO.ite ?_ ?_
      | refine LeO.bind ?_ (fun _ => ?_)
    · intro y0 y1 y2 y3 y4 y5 y6 y7 y8 y9 y10
      unfold rollcalllaw17_QueueMay.l0
      repeat' first
      | (with_reducible exact ih0 _ _ _ _ _ _ _ _ _ _)
      | (with_reducible exact ih1 _ _ _ _ _ _ _ _ _ _ _)
      | (with_reducible exact ih2 _ _ _ _ _ _ _ _ _ _ _)
      | (with_reducible exact queue_May.mono _ _ _ _)
      | (with_reducible exact rollcalllaw17_live.mono _)
      | (with_reducible exact rollcallref17_Changes.mono _ _ _)
      | (with_reducible exact rollcallref17_Few.mono _ _ _)
      | (with_reducible exact rollcallref17_May.mono _ _ _ _)
      | (with_reducible exact rollcallref17_One.mono _ _ _ _ _ _ _)
      | (with_reducible exact LeO.refl _)
      | (with_reducible exact LeO.none _)
      | (with_reducible refine LeO.ite ?_ ?_)
      | (with_reducible refine LeO.bind ?_ (fun _ => ?_))
      | exact ih0 _ _ _ _ _ _ _ _ _ _
      | exact ih1 _ _ _ _ _ _ _ _ _ _ _
      | exact ih2 _ _ _ _ _ _ _ _ _ _ _
      | exact queue_May.mono _ _ _ _
      | exact rollcalllaw17_live.mono _
      | exact rollcallref17_Changes.mono _ _ _
      | exact rollcallref17_Few.mono _ _ _
      | exact rollcallref17_May.mono _ _ _ _
      | exact rollcallref17_One.mono _ _ _ _ _ _ _
      | exact LeO.none _
      | refine LeO.ite ?_ ?_
      | refine LeO.bind ?_ (fun _ => ?_)
theorem rollcalllaw17_QueueMay.mono : ∀ a0 a1 a2 a3 a4 a5 a6 a7 a8 k, LeO (rollcalllaw17_QueueMay.f k a0 a1 a2 a3 a4 a5 a6 a7 a8) (rollcalllaw17_QueueMay.f (k + 1) a0 a1 a2 a3 a4 a5 a6 a7 a8) := by
  intro a0 a1 a2 a3 a4 a5 a6 a7 a8 k
  obtain ⟨ih0, ih1, ih2⟩ := rollcalllaw17_QueueMay.mono_l k
  unfold rollcalllaw17_QueueMay.f
  repeat' first
      | (with_reducible exact ih0 _ _ _ _ _ _ _ _ _ _)
      | (with_reducible exact ih1 _ _ _ _ _ _ _ _ _ _ _)
      | (with_reducible exact ih2 _ _ _ _ _ _ _ _ _ _ _)
      | (with_reducible exact queue_May.mono _ _ _ _)
      | (with_reducible exact rollcalllaw17_live.mono _)
      | (with_reducible exact rollcallref17_Changes.mono _ _ _)
      | (with_reducible exact rollcallref17_Few.mono _ _ _)
      | (with_reducible exact rollcallref17_May.mono _ _ _ _)
      | (with_reducible exact rollcallref17_One.mono _ _ _ _ _ _ _)
      | (with_reducible exact LeO.refl _)
      | (with_reducible exact LeO.none _)
      | (with_reducible refine LeO.ite ?_ ?_)
      | (with_reducible refine LeO.bind ?_ (fun _ => ?_))
      | exact ih0 _ _ _ _ _ _ _ _ _ _
      | exact ih1 _ _ _ _ _ _ _ _ _ _ _
      | exact ih2 _ _ _ _ _ _ _ _ _ _ _
      | exact queue_May.mono _ _ _ _
      | exact rollcalllaw17_live.mono _
      | exact rollcallref17_Changes.mono _ _ _
      | exact rollcallref17_Few.mono _ _ _
      | exact rollcallref17_May.mono _ _ _ _
      | exact rollcallref17_One.mono _ _ _ _ _ _ _
      | exact LeO.none _
      | refine LeO.ite ?_ ?_
      | refine LeO.bind ?_ (fun _ => ?_)
set_option maxHeartbeats 8000000 in
set_option maxRecDepth 100000 in
theorem rollcalllaw17_QueueMay.calls (k : Nat) (A0_0 : Option Addr) (c0_0 : Nat) (l0_0 : List (S33)) (a0_1 : Bool) (a1_0 : ByteArray) (a1_1 : Bool) (a1_2 : Int) (a1_3 : Int) (a1_4 : Int) (a1_5 : ByteArray) (a2 : Int) (r : Bool) (hT_ : r = true) (w : World) (hr0_0 : Kd.C k33 w A0_0 l0_0.length l0_0) (hc0_0 : l0_0.length ≤ c0_0) (h : rollcalllaw17_QueueMay.f k l0_0 a0_1 a1_0 a1_1 a1_2 a1_3 a1_4 a1_5 a2 = some r) :
    Calls Try.prog 5 #[.agg #[.slice A0_0 l0_0.length c0_0, .bool a0_1], .agg #[.string a1_0, .bool a1_1, .int .i64 a1_2, .int .i64 a1_3, .int .i64 a1_4, .string a1_5], .int .i64 a2] w fun e w' => e = .returned (.bool r) ∧ Below w.heap.size w w' := by
  have hu24 := Try.underlying24
  have hu33 := Try.underlying33
  have HT := Aside0.mk hT_
  clear hT_
  have HR0_0 := Aside0.mk hr0_0
  have HC0_0 := Aside0.mk hc0_0
  clear hr0_0 hc0_0
  have HB := Aside0.mk (Below.refl w.heap.size w)
  have H : (if a2 < 1 then (rollcalllaw17_QueueMay.j0 k a2 true l0_0 a0_1 a1_0 a1_1 a1_2 a1_3 a1_4 a1_5) else (if a2 > 16 then (rollcalllaw17_QueueMay.j0 k a2 true l0_0 a0_1 a1_0 a1_1 a1_2 a1_3 a1_4 a1_5) else ((rollcallref17_Few.f k l0_0 a0_1).bind fun t404 => (if t404 = true then ((rollcallref17_May.f k l0_0 a0_1 a2).bind fun t405 => (if t405 = true then ((rollcallref17_Changes.f k (([(⟨a1_0, a1_1, (⟨a1_2, a1_3, a1_4, a1_5⟩ : S31)⟩ : S33)] : List (S33))) 1).bind fun t409 => (if t409 = true then ((rollcallref17_One.f k a1_0 a1_1 a1_2 a1_3 a1_4 a1_5).bind fun t410 => (rollcalllaw17_QueueMay.j0 k a2 (!t410) l0_0 a0_1 a1_0 a1_1 a1_2 a1_3 a1_4 a1_5)) else (rollcalllaw17_QueueMay.j0 k a2 true l0_0 a0_1 a1_0 a1_1 a1_2 a1_3 a1_4 a1_5))) else (rollcalllaw17_QueueMay.j0 k a2 true l0_0 a0_1 a1_0 a1_1 a1_2 a1_3 a1_4 a1_5))) else (rollcalllaw17_QueueMay.j0 k a2 true l0_0 a0_1 a1_0 a1_1 a1_2 a1_3 a1_4 a1_5))))) = some r := h
  clear h
  have HC4 := Aside0.mk H
  clear H
  go_enter Try.func5, Try.ntmps5
  go_upto_region 1 with (first | ((with_reducible refine gate_dst (N := 3) rfl ?_); (try (refine gate_guard (by rfl) ?_; dsimp only)); refine box_event ?hg (N := 3) ?hd (cs := #[.slice A0_0 l0_0.length c0_0, .bool a0_1]) (t := 24) ?hr ?_; (case hd => rfl); (case hg => rfl); (case hr => first | (go_simp; done) | (go_simp; rfl)); intro gb402 hg w5 hbox hb; have BK402 := Aside0.mk (hbox); have GW402 := Aside0.mk ((by rw [hg]; exact (below_size (hS HB.out)) : w.heap.size ≤ gb402)); have GE402 := Aside0.mk ((by rw [hg]; exact (below_size (hS HB.out)) : w.heap.size ≤ gb402)); replace HB := Aside0.mk (below_step (hS HB.out) hb); clear hb hbox hg) | ((with_reducible refine gate_dst (N := 4) rfl ?_); (try (refine gate_guard (by rfl) ?_; dsimp only)); refine box_event ?hg (N := 4) ?hd (cs := #[.string a1_0, .bool a1_1, .int .i64 a1_2, .int .i64 a1_3, .int .i64 a1_4, .string a1_5]) (t := 33) ?hr ?_; (case hd => rfl); (case hg => rfl); (case hr => first | (go_simp; done) | (go_simp; rfl)); intro gb403 hg w6 hbox hb; have BK403 := Aside0.mk (hbox); have GW403 := Aside0.mk ((by rw [hg]; exact (below_size (hS HB.out)) : w.heap.size ≤ gb403)); have GE403 := Aside0.mk ((by rw [hg]; exact (below_size (hS HB.out)) : w.heap.size ≤ gb403)); replace HB := Aside0.mk (below_step (hS HB.out) hb); have NB402_403 := Aside0.mk ((by rw [hg]; exact Nat.ne_of_lt (blk_lt (bS BK402.out)) : gb402 ≠ gb403)); have NB403_402 := Aside0.mk ((by rw [hg]; exact Nat.ne_of_gt (blk_lt (bS BK402.out)) : gb403 ≠ gb402)); replace BK402 := Aside0.mk (blk_below (bS BK402.out) hb); clear hb hbox hg))
  repeat (go_quiet (first | ((with_reducible refine gate_dst (N := 3) rfl ?_); (try (refine gate_guard (by rfl) ?_; dsimp only)); refine box_event ?hg (N := 3) ?hd (cs := #[.slice A0_0 l0_0.length c0_0, .bool a0_1]) (t := 24) ?hr ?_; (case hd => rfl); (case hg => rfl); (case hr => first | (go_simp; done) | (go_simp; rfl)); intro gb402 hg w5 hbox hb; have BK402 := Aside0.mk (hbox); have GW402 := Aside0.mk ((by rw [hg]; exact (below_size (hS HB.out)) : w.heap.size ≤ gb402)); have GE402 := Aside0.mk ((by rw [hg]; exact (below_size (hS HB.out)) : w.heap.size ≤ gb402)); replace HB := Aside0.mk (below_step (hS HB.out) hb); clear hb hbox hg) | ((with_reducible refine gate_dst (N := 4) rfl ?_); (try (refine gate_guard (by rfl) ?_; dsimp only)); refine box_event ?hg (N := 4) ?hd (cs := #[.string a1_0, .bool a1_1, .int .i64 a1_2, .int .i64 a1_3, .int .i64 a1_4, .string a1_5]) (t := 33) ?hr ?_; (case hd => rfl); (case hg => rfl); (case hr => first | (go_simp; done) | (go_simp; rfl)); intro gb403 hg w6 hbox hb; have BK403 := Aside0.mk (hbox); have GW403 := Aside0.mk ((by rw [hg]; exact (below_size (hS HB.out)) : w.heap.size ≤ gb403)); have GE403 := Aside0.mk ((by rw [hg]; exact (below_size (hS HB.out)) : w.heap.size ≤ gb403)); replace HB := Aside0.mk (below_step (hS HB.out) hb); have NB402_403 := Aside0.mk ((by rw [hg]; exact Nat.ne_of_lt (blk_lt (bS BK402.out)) : gb402 ≠ gb403)); have NB403_402 := Aside0.mk ((by rw [hg]; exact Nat.ne_of_gt (blk_lt (bS BK402.out)) : gb403 ≠ gb402)); replace BK402 := Aside0.mk (blk_below (bS BK402.out) hb); clear hb hbox hg)); go_upto_region 1 with (first | ((with_reducible refine gate_dst (N := 3) rfl ?_); (try (refine gate_guard (by rfl) ?_; dsimp only)); refine box_event ?hg (N := 3) ?hd (cs := #[.slice A0_0 l0_0.length c0_0, .bool a0_1]) (t := 24) ?hr ?_; (case hd => rfl); (case hg => rfl); (case hr => first | (go_simp; done) | (go_simp; rfl)); intro gb402 hg w5 hbox hb; have BK402 := Aside0.mk (hbox); have GW402 := Aside0.mk ((by rw [hg]; exact (below_size (hS HB.out)) : w.heap.size ≤ gb402)); have GE402 := Aside0.mk ((by rw [hg]; exact (below_size (hS HB.out)) : w.heap.size ≤ gb402)); replace HB := Aside0.mk (below_step (hS HB.out) hb); clear hb hbox hg) | ((with_reducible refine gate_dst (N := 4) rfl ?_); (try (refine gate_guard (by rfl) ?_; dsimp only)); refine box_event ?hg (N := 4) ?hd (cs := #[.string a1_0, .bool a1_1, .int .i64 a1_2, .int .i64 a1_3, .int .i64 a1_4, .string a1_5]) (t := 33) ?hr ?_; (case hd => rfl); (case hg => rfl); (case hr => first | (go_simp; done) | (go_simp; rfl)); intro gb403 hg w6 hbox hb; have BK403 := Aside0.mk (hbox); have GW403 := Aside0.mk ((by rw [hg]; exact (below_size (hS HB.out)) : w.heap.size ≤ gb403)); have GE403 := Aside0.mk ((by rw [hg]; exact (below_size (hS HB.out)) : w.heap.size ≤ gb403)); replace HB := Aside0.mk (below_step (hS HB.out) hb); have NB402_403 := Aside0.mk ((by rw [hg]; exact Nat.ne_of_lt (blk_lt (bS BK402.out)) : gb402 ≠ gb403)); have NB403_402 := Aside0.mk ((by rw [hg]; exact Nat.ne_of_gt (blk_lt (bS BK402.out)) : gb403 ≠ gb402)); replace BK402 := Aside0.mk (blk_below (bS BK402.out) hb); clear hb hbox hg)))
  (try simp only [Act.put, List.setIfInBounds_toArray, List.set_cons_zero, List.set_cons_succ])
  go_cut [40] (fun v40 wc => ∃ (kq : Nat) (x40_3 : Bool), v40 = .bool x40_3 ∧ Aside0 (rollcalllaw17_QueueMay.j0 kq a2 x40_3 l0_0 a0_1 a1_0 a1_1 a1_2 a1_3 a1_4 a1_5 = some r) ∧ Aside0 (kq ≤ k) ∧ Aside0 (wc.heap[gb402]? = some (.cells #[(.slice A0_0 l0_0.length c0_0), .bool a0_1] 24 (0, 0))) ∧ Aside0 (wc.heap[gb403]? = some (.cells #[.string a1_0, .bool a1_1, .int .i64 a1_2, .int .i64 a1_3, .int .i64 a1_4, .string a1_5] 33 (0, 0))) ∧ Aside0 (Below w.heap.size w wc))
  case first =>
    have H := HC4.out
    clear HC4
    by_cases c7 : a2 < 1
    · rw [if_pos c7] at H
      have c7b0 : decide (a2 < 1) = true := decide_eq_true c7
      clear c7
      (first | rw [c7b0] | (simp only [i64_w, i32_w]; rw [c7b0]) | skip)
      have H' := Aside0.mk H
      clear H
      go_wp2
      repeat (go_quiet (fail); try go_wp2)
      go_meet
      case rel => exact ⟨_, (true), (by first | rfl | (simp; done) | (simp [*]; done)), H', ⟨by first | omega | exact Nat.le_refl _⟩, ⟨bS BK402.out⟩, ⟨bS BK403.out⟩, ⟨by repeat (first | (with_reducible first | exact HB.out | apply below_alloc | apply pw_below_drewN | apply below_drew1 | refine below_set ?_ GE402.out | refine below_set ?_ GE403.out) | exact HB.out)⟩⟩
    · rw [if_neg c7] at H
      have c7b0 : decide (a2 < 1) = false := decide_eq_false c7
      clear c7
      (first | rw [c7b0] | (simp only [i64_w, i32_w]; rw [c7b0]) | skip)
      by_cases c8 : a2 > 16
      · rw [if_pos c8] at H
        have c8b0 : decide (16 < a2) = true := decide_eq_true c8
        clear c8
        have H' := Aside0.mk H
        clear H
        go_wp2
        repeat (go_quiet (fail); try go_wp2)
        go_meet
        case rel => exact ⟨_, (true), (by first | rfl | (simp; done) | (simp [*]; done)), H', ⟨by first | omega | exact Nat.le_refl _⟩, ⟨bS BK402.out⟩, ⟨bS BK403.out⟩, ⟨by repeat (first | (with_reducible first | exact HB.out | apply below_alloc | apply pw_below_drewN | apply below_drew1 | refine below_set ?_ GE402.out | refine below_set ?_ GE403.out) | exact HB.out)⟩⟩
      · rw [if_neg c8] at H
        have c8b0 : decide (16 < a2) = false := decide_eq_false c8
        clear c8
        replace H := Option.bind_eq_some_iff.mp H
        obtain ⟨t404, A90, H⟩ := H
        replace H : (if t404 = true then ((rollcallref17_May.f k l0_0 a0_1 a2).bind fun t405 => (if t405 = true then ((rollcallref17_Changes.f k (([(⟨a1_0, a1_1, (⟨a1_2, a1_3, a1_4, a1_5⟩ : S31)⟩ : S33)] : List (S33))) 1).bind fun t409 => (if t409 = true then ((rollcallref17_One.f k a1_0 a1_1 a1_2 a1_3 a1_4 a1_5).bind fun t410 => (rollcalllaw17_QueueMay.j0 k a2 (!t410) l0_0 a0_1 a1_0 a1_1 a1_2 a1_3 a1_4 a1_5)) else (rollcalllaw17_QueueMay.j0 k a2 true l0_0 a0_1 a1_0 a1_1 a1_2 a1_3 a1_4 a1_5))) else (rollcalllaw17_QueueMay.j0 k a2 true l0_0 a0_1 a1_0 a1_1 a1_2 a1_3 a1_4 a1_5))) else (rollcalllaw17_QueueMay.j0 k a2 true l0_0 a0_1 a1_0 a1_1 a1_2 a1_3 a1_4 a1_5)) = some r := H
        have A9 := Aside0.mk A90
        clear A90
        by_cases c10 : t404 = true
        · subst c10
          have H1 : ((rollcallref17_May.f k l0_0 a0_1 a2).bind fun t405 => (if t405 = true then ((rollcallref17_Changes.f k (([(⟨a1_0, a1_1, (⟨a1_2, a1_3, a1_4, a1_5⟩ : S31)⟩ : S33)] : List (S33))) 1).bind fun t409 => (if t409 = true then ((rollcallref17_One.f k a1_0 a1_1 a1_2 a1_3 a1_4 a1_5).bind fun t410 => (rollcalllaw17_QueueMay.j0 k a2 (!t410) l0_0 a0_1 a1_0 a1_1 a1_2 a1_3 a1_4 a1_5)) else (rollcalllaw17_QueueMay.j0 k a2 true l0_0 a0_1 a1_0 a1_1 a1_2 a1_3 a1_4 a1_5))) else (rollcalllaw17_QueueMay.j0 k a2 true l0_0 a0_1 a1_0 a1_1 a1_2 a1_3 a1_4 a1_5))) = some r := by rw [if_pos rfl] at H; exact H
          clear H
          have H := H1
          clear H1
          replace H := Option.bind_eq_some_iff.mp H
          obtain ⟨t405, A110, H⟩ := H
          replace H : (if t405 = true then ((rollcallref17_Changes.f k (([(⟨a1_0, a1_1, (⟨a1_2, a1_3, a1_4, a1_5⟩ : S31)⟩ : S33)] : List (S33))) 1).bind fun t409 => (if t409 = true then ((rollcallref17_One.f k a1_0 a1_1 a1_2 a1_3 a1_4 a1_5).bind fun t410 => (rollcalllaw17_QueueMay.j0 k a2 (!t410) l0_0 a0_1 a1_0 a1_1 a1_2 a1_3 a1_4 a1_5)) else (rollcalllaw17_QueueMay.j0 k a2 true l0_0 a0_1 a1_0 a1_1 a1_2 a1_3 a1_4 a1_5))) else (rollcalllaw17_QueueMay.j0 k a2 true l0_0 a0_1 a1_0 a1_1 a1_2 a1_3 a1_4 a1_5)) = some r := H
          have A11 := Aside0.mk A110
          clear A110
          by_cases c12 : t405 = true
          · subst c12
            have H1 : ((rollcallref17_Changes.f k (([(⟨a1_0, a1_1, (⟨a1_2, a1_3, a1_4, a1_5⟩ : S31)⟩ : S33)] : List (S33))) 1).bind fun t409 => (if t409 = true then ((rollcallref17_One.f k a1_0 a1_1 a1_2 a1_3 a1_4 a1_5).bind fun t410 => (rollcalllaw17_QueueMay.j0 k a2 (!t410) l0_0 a0_1 a1_0 a1_1 a1_2 a1_3 a1_4 a1_5)) else (rollcalllaw17_QueueMay.j0 k a2 true l0_0 a0_1 a1_0 a1_1 a1_2 a1_3 a1_4 a1_5))) = some r := by rw [if_pos rfl] at H; exact H
            clear H
            have H := H1
            clear H1
            obtain ⟨y406, hy406⟩ : ∃ y_ : List (S33), y_ = (([(⟨a1_0, a1_1, (⟨a1_2, a1_3, a1_4, a1_5⟩ : S31)⟩ : S33)] : List (S33))) := ⟨_, rfl⟩
            replace H : ((rollcallref17_Changes.f k y406 1).bind fun t409 => (if t409 = true then ((rollcallref17_One.f k a1_0 a1_1 a1_2 a1_3 a1_4 a1_5).bind fun t410 => (rollcalllaw17_QueueMay.j0 k a2 (!t410) l0_0 a0_1 a1_0 a1_1 a1_2 a1_3 a1_4 a1_5)) else (rollcalllaw17_QueueMay.j0 k a2 true l0_0 a0_1 a1_0 a1_1 a1_2 a1_3 a1_4 a1_5))) = some r := by first | (rw [hy406]; with_reducible exact H) | (have H2_ := (Option.bind_some _ _).symm.trans H; rw [hy406]; with_reducible exact H2_) | (have H2_ := (Option.bind_some _ _).symm.trans H; with_reducible exact H2_) | with_reducible exact H | (rw [hy406]; exact H) | exact H
            have Ny406 := Aside0.mk hy406
            clear hy406
            replace H := Option.bind_eq_some_iff.mp H
            obtain ⟨t409, A130, H⟩ := H
            replace H : (if t409 = true then ((rollcallref17_One.f k a1_0 a1_1 a1_2 a1_3 a1_4 a1_5).bind fun t410 => (rollcalllaw17_QueueMay.j0 k a2 (!t410) l0_0 a0_1 a1_0 a1_1 a1_2 a1_3 a1_4 a1_5)) else (rollcalllaw17_QueueMay.j0 k a2 true l0_0 a0_1 a1_0 a1_1 a1_2 a1_3 a1_4 a1_5)) = some r := H
            have A13 := Aside0.mk A130
            clear A130
            by_cases c14 : t409 = true
            · subst c14
              have H1 : ((rollcallref17_One.f k a1_0 a1_1 a1_2 a1_3 a1_4 a1_5).bind fun t410 => (rollcalllaw17_QueueMay.j0 k a2 (!t410) l0_0 a0_1 a1_0 a1_1 a1_2 a1_3 a1_4 a1_5)) = some r := by rw [if_pos rfl] at H; exact H
              clear H
              have H := H1
              clear H1
              replace H := Option.bind_eq_some_iff.mp H
              obtain ⟨t410, A150, H⟩ := H
              replace H : (rollcalllaw17_QueueMay.j0 k a2 (!t410) l0_0 a0_1 a1_0 a1_1 a1_2 a1_3 a1_4 a1_5) = some r := H
              have A15 := Aside0.mk A150
              clear A150
              have H' := Aside0.mk H
              clear H
              have hnb16 := NB402_403.out
              have hnc16 := NB403_402.out
              have hcz17_0 : w6.cell? ⟨gb402, 0, none⟩ = some (.slice A0_0 l0_0.length c0_0) := (blk_cell BK402.out 0).trans rfl
              have hcz17_1 : w6.cell? ⟨gb402, 1, none⟩ = some (.bool a0_1) := (blk_cell BK402.out 1).trans rfl
              have hfz17_0 := blk_frozen BK402.out 0
              have hfz17_1 := blk_frozen BK402.out 1
              go_wp2_with (first | (go_at_call 8; (with_reducible refine (rollcallref17_Few.calls k _ _ l0_0 a0_1 true _ ?side1 ?side2 A9.out).mono ?_); (case side1 => repeat (first | exact (Kd.C_below HR0_0.out HB.out) | (with_reducible refine Kd.C_alloc ?_ _) | (with_reducible refine Kd.C_drewN ?_ _) | (with_reducible refine Kd.C_drew ?_))); (case side2 => exact HC0_0.out); rintro e w18 ⟨rfl, hb⟩; replace BK402 := Aside0.mk (blk_below (bS BK402.out) hb); replace BK403 := Aside0.mk (blk_below (bS BK403.out) hb); replace HB := Aside0.mk (below_step (hS HB.out) hb); (try clear hb); (try clear hb2); (try clear hk); (try clear hi); have hcz19_0 : w18.cell? ⟨gb402, 0, none⟩ = some (.slice A0_0 l0_0.length c0_0) := (blk_cell BK402.out 0).trans rfl; have hcz19_1 : w18.cell? ⟨gb402, 1, none⟩ = some (.bool a0_1) := (blk_cell BK402.out 1).trans rfl; have hfz19_0 := blk_frozen BK402.out 0; have hfz19_1 := blk_frozen BK402.out 1) | (go_at_call 14; (with_reducible refine (rollcallref17_May.calls k _ _ l0_0 a0_1 a2 true _ ?side1 ?side2 A11.out).mono ?_); (case side1 => repeat (first | exact (Kd.C_below HR0_0.out HB.out) | (with_reducible refine Kd.C_alloc ?_ _) | (with_reducible refine Kd.C_drewN ?_ _) | (with_reducible refine Kd.C_drew ?_))); (case side2 => exact HC0_0.out); rintro e w20 ⟨rfl, hb⟩; replace BK402 := Aside0.mk (blk_below (bS BK402.out) hb); replace BK403 := Aside0.mk (blk_below (bS BK403.out) hb); replace HB := Aside0.mk (below_step (hS HB.out) hb); (try clear hb); (try clear hb2); (try clear hk); (try clear hi); have hcz21_0 : w20.cell? ⟨gb403, 0, none⟩ = some (.string a1_0) := (blk_cell BK403.out 0).trans rfl; have hcz21_1 : w20.cell? ⟨gb403, 1, none⟩ = some (.bool a1_1) := (blk_cell BK403.out 1).trans rfl; have hcz21_2 : w20.cell? ⟨gb403, 2, none⟩ = some (.int .i64 a1_2) := (blk_cell BK403.out 2).trans rfl; have hcz21_3 : w20.cell? ⟨gb403, 3, none⟩ = some (.int .i64 a1_3) := (blk_cell BK403.out 3).trans rfl; have hcz21_4 : w20.cell? ⟨gb403, 4, none⟩ = some (.int .i64 a1_4) := (blk_cell BK403.out 4).trans rfl; have hcz21_5 : w20.cell? ⟨gb403, 5, none⟩ = some (.string a1_5) := (blk_cell BK403.out 5).trans rfl; have hfz21_0 := blk_frozen BK403.out 0; have hfz21_1 := blk_frozen BK403.out 1; have hfz21_2 := blk_frozen BK403.out 2; have hfz21_3 := blk_frozen BK403.out 3; have hfz21_4 := blk_frozen BK403.out 4; have hfz21_5 := blk_frozen BK403.out 5) | ((with_reducible refine gate_dst (N := 32) rfl ?_); (try (refine gate_guard (by rfl) ?_; dsimp only)); refine Kd.R_lit k33 _ 33 ?hg (N := 32) ?hd (xs := ([(⟨a1_0, a1_1, (⟨a1_2, a1_3, a1_4, a1_5⟩ : S31)⟩ : S33)] : List (S33))) (inner := [.string a1_0, .bool a1_1, .int .i64 a1_2, .int .i64 a1_3, .int .i64 a1_4, .string a1_5]) (ok := fun _ => True) (okp := fun _ => True) ?hr ?hp (fun _ hk => hk) trivial (Below.refl _ _) (Nat.le_refl _) (by simp) ?_; (case hd => rfl); (case hg => rfl); (case hr => first | (go_simp; done) | (go_simp; rfl)); (case hp => exact (Reps.c6 (show Kd.M k33 _ _ _ (⟨a1_0, a1_1, (⟨a1_2, a1_3, a1_4, a1_5⟩ : S31)⟩ : S33) [.string a1_0, .bool a1_1, .int .i64 a1_2, .int .i64 a1_3, .int .i64 a1_4, .string a1_5] from (k33_mkM _ _ _ (⟨a1_0, a1_1, (⟨a1_2, a1_3, a1_4, a1_5⟩ : S31)⟩ : S33) )) (Reps.none _ _))); intro v407 w22 ho23 hb hg_ hnew_; clear hg_ hnew_; (first | rw [← Ny406.out] at ho23 | (simp only [Int.reduceToNat] at ho23; rw [← Ny406.out] at ho23)); have HO408 := Aside0.mk (Kd.R_lower (Kd.R_newB ho23 (bS BK403.out)) (below_size (hS HB.out))); replace BK402 := Aside0.mk (blk_below (bS BK402.out) hb); replace BK403 := Aside0.mk (blk_below (bS BK403.out) hb); replace HB := Aside0.mk (below_step (hS HB.out) hb); clear hb ho23; obtain ⟨Ao24, co24, eo24⟩ := Kd.R_slice HO408.out; subst eo24) | (go_at_call 25; (with_reducible refine (rollcallref17_Changes.calls k _ _ y406 1 true _ ?side1 ?side2 A13.out).mono ?_); (case side1 => repeat (first | exact (Kd.R_reads' HO408.out).2.2 | (with_reducible refine Kd.C_alloc ?_ _) | (with_reducible refine Kd.C_drewN ?_ _) | (with_reducible refine Kd.C_drew ?_))); (case side2 => exact (Kd.R_reads' HO408.out).2.1); rintro e w' ⟨rfl, ⟨nd, rfl⟩⟩; (try first | exact ⟨rfl, _, World.drewN_drewN _ _ _⟩ | exact ⟨rfl, _, Eq.trans (World.drewN_drewN _ _ _) (congrArg (World.drewN _) (Nat.add_assoc _ _ _))⟩); have hcz25_0 : w22.cell? ⟨gb403, 0, none⟩ = some (.string a1_0) := (blk_cell BK403.out 0).trans rfl; have hcz25_1 : w22.cell? ⟨gb403, 1, none⟩ = some (.bool a1_1) := (blk_cell BK403.out 1).trans rfl; have hcz25_2 : w22.cell? ⟨gb403, 2, none⟩ = some (.int .i64 a1_2) := (blk_cell BK403.out 2).trans rfl; have hcz25_3 : w22.cell? ⟨gb403, 3, none⟩ = some (.int .i64 a1_3) := (blk_cell BK403.out 3).trans rfl; have hcz25_4 : w22.cell? ⟨gb403, 4, none⟩ = some (.int .i64 a1_4) := (blk_cell BK403.out 4).trans rfl; have hcz25_5 : w22.cell? ⟨gb403, 5, none⟩ = some (.string a1_5) := (blk_cell BK403.out 5).trans rfl; have hfz25_0 := blk_frozen BK403.out 0; have hfz25_1 := blk_frozen BK403.out 1; have hfz25_2 := blk_frozen BK403.out 2; have hfz25_3 := blk_frozen BK403.out 3; have hfz25_4 := blk_frozen BK403.out 4; have hfz25_5 := blk_frozen BK403.out 5) | (go_at_call 12; (with_reducible refine (rollcallref17_One.calls k a1_0 a1_1 a1_2 a1_3 a1_4 a1_5 t410 _ A15.out).mono ?_); rintro e w26 ⟨rfl, hb⟩; replace HO408 := Aside0.mk (Kd.R_below (rS HO408.out) hb); replace BK402 := Aside0.mk (blk_below (bS BK402.out) hb); replace BK403 := Aside0.mk (blk_below (bS BK403.out) hb); replace HB := Aside0.mk (below_step (hS HB.out) hb); (try clear hb); (try clear hb2); (try clear hk); (try clear hi)))
              repeat (go_quiet (first | (go_at_call 8; (with_reducible refine (rollcallref17_Few.calls k _ _ l0_0 a0_1 true _ ?side1 ?side2 A9.out).mono ?_); (case side1 => repeat (first | exact (Kd.C_below HR0_0.out HB.out) | (with_reducible refine Kd.C_alloc ?_ _) | (with_reducible refine Kd.C_drewN ?_ _) | (with_reducible refine Kd.C_drew ?_))); (case side2 => exact HC0_0.out); rintro e w18 ⟨rfl, hb⟩; replace BK402 := Aside0.mk (blk_below (bS BK402.out) hb); replace BK403 := Aside0.mk (blk_below (bS BK403.out) hb); replace HB := Aside0.mk (below_step (hS HB.out) hb); (try clear hb); (try clear hb2); (try clear hk); (try clear hi); have hcz19_0 : w18.cell? ⟨gb402, 0, none⟩ = some (.slice A0_0 l0_0.length c0_0) := (blk_cell BK402.out 0).trans rfl; have hcz19_1 : w18.cell? ⟨gb402, 1, none⟩ = some (.bool a0_1) := (blk_cell BK402.out 1).trans rfl; have hfz19_0 := blk_frozen BK402.out 0; have hfz19_1 := blk_frozen BK402.out 1) | (go_at_call 14; (with_reducible refine (rollcallref17_May.calls k _ _ l0_0 a0_1 a2 true _ ?side1 ?side2 A11.out).mono ?_); (case side1 => repeat (first | exact (Kd.C_below HR0_0.out HB.out) | (with_reducible refine Kd.C_alloc ?_ _) | (with_reducible refine Kd.C_drewN ?_ _) | (with_reducible refine Kd.C_drew ?_))); (case side2 => exact HC0_0.out); rintro e w20 ⟨rfl, hb⟩; replace BK402 := Aside0.mk (blk_below (bS BK402.out) hb); replace BK403 := Aside0.mk (blk_below (bS BK403.out) hb); replace HB := Aside0.mk (below_step (hS HB.out) hb); (try clear hb); (try clear hb2); (try clear hk); (try clear hi); have hcz21_0 : w20.cell? ⟨gb403, 0, none⟩ = some (.string a1_0) := (blk_cell BK403.out 0).trans rfl; have hcz21_1 : w20.cell? ⟨gb403, 1, none⟩ = some (.bool a1_1) := (blk_cell BK403.out 1).trans rfl; have hcz21_2 : w20.cell? ⟨gb403, 2, none⟩ = some (.int .i64 a1_2) := (blk_cell BK403.out 2).trans rfl; have hcz21_3 : w20.cell? ⟨gb403, 3, none⟩ = some (.int .i64 a1_3) := (blk_cell BK403.out 3).trans rfl; have hcz21_4 : w20.cell? ⟨gb403, 4, none⟩ = some (.int .i64 a1_4) := (blk_cell BK403.out 4).trans rfl; have hcz21_5 : w20.cell? ⟨gb403, 5, none⟩ = some (.string a1_5) := (blk_cell BK403.out 5).trans rfl; have hfz21_0 := blk_frozen BK403.out 0; have hfz21_1 := blk_frozen BK403.out 1; have hfz21_2 := blk_frozen BK403.out 2; have hfz21_3 := blk_frozen BK403.out 3; have hfz21_4 := blk_frozen BK403.out 4; have hfz21_5 := blk_frozen BK403.out 5) | ((with_reducible refine gate_dst (N := 32) rfl ?_); (try (refine gate_guard (by rfl) ?_; dsimp only)); refine Kd.R_lit k33 _ 33 ?hg (N := 32) ?hd (xs := ([(⟨a1_0, a1_1, (⟨a1_2, a1_3, a1_4, a1_5⟩ : S31)⟩ : S33)] : List (S33))) (inner := [.string a1_0, .bool a1_1, .int .i64 a1_2, .int .i64 a1_3, .int .i64 a1_4, .string a1_5]) (ok := fun _ => True) (okp := fun _ => True) ?hr ?hp (fun _ hk => hk) trivial (Below.refl _ _) (Nat.le_refl _) (by simp) ?_; (case hd => rfl); (case hg => rfl); (case hr => first | (go_simp; done) | (go_simp; rfl)); (case hp => exact (Reps.c6 (show Kd.M k33 _ _ _ (⟨a1_0, a1_1, (⟨a1_2, a1_3, a1_4, a1_5⟩ : S31)⟩ : S33) [.string a1_0, .bool a1_1, .int .i64 a1_2, .int .i64 a1_3, .int .i64 a1_4, .string a1_5] from (k33_mkM _ _ _ (⟨a1_0, a1_1, (⟨a1_2, a1_3, a1_4, a1_5⟩ : S31)⟩ : S33) )) (Reps.none _ _))); intro v407 w22 ho23 hb hg_ hnew_; clear hg_ hnew_; (first | rw [← Ny406.out] at ho23 | (simp only [Int.reduceToNat] at ho23; rw [← Ny406.out] at ho23)); have HO408 := Aside0.mk (Kd.R_lower (Kd.R_newB ho23 (bS BK403.out)) (below_size (hS HB.out))); replace BK402 := Aside0.mk (blk_below (bS BK402.out) hb); replace BK403 := Aside0.mk (blk_below (bS BK403.out) hb); replace HB := Aside0.mk (below_step (hS HB.out) hb); clear hb ho23; obtain ⟨Ao24, co24, eo24⟩ := Kd.R_slice HO408.out; subst eo24) | (go_at_call 25; (with_reducible refine (rollcallref17_Changes.calls k _ _ y406 1 true _ ?side1 ?side2 A13.out).mono ?_); (case side1 => repeat (first | exact (Kd.R_reads' HO408.out).2.2 | (with_reducible refine Kd.C_alloc ?_ _) | (with_reducible refine Kd.C_drewN ?_ _) | (with_reducible refine Kd.C_drew ?_))); (case side2 => exact (Kd.R_reads' HO408.out).2.1); rintro e w' ⟨rfl, ⟨nd, rfl⟩⟩; (try first | exact ⟨rfl, _, World.drewN_drewN _ _ _⟩ | exact ⟨rfl, _, Eq.trans (World.drewN_drewN _ _ _) (congrArg (World.drewN _) (Nat.add_assoc _ _ _))⟩); have hcz25_0 : w22.cell? ⟨gb403, 0, none⟩ = some (.string a1_0) := (blk_cell BK403.out 0).trans rfl; have hcz25_1 : w22.cell? ⟨gb403, 1, none⟩ = some (.bool a1_1) := (blk_cell BK403.out 1).trans rfl; have hcz25_2 : w22.cell? ⟨gb403, 2, none⟩ = some (.int .i64 a1_2) := (blk_cell BK403.out 2).trans rfl; have hcz25_3 : w22.cell? ⟨gb403, 3, none⟩ = some (.int .i64 a1_3) := (blk_cell BK403.out 3).trans rfl; have hcz25_4 : w22.cell? ⟨gb403, 4, none⟩ = some (.int .i64 a1_4) := (blk_cell BK403.out 4).trans rfl; have hcz25_5 : w22.cell? ⟨gb403, 5, none⟩ = some (.string a1_5) := (blk_cell BK403.out 5).trans rfl; have hfz25_0 := blk_frozen BK403.out 0; have hfz25_1 := blk_frozen BK403.out 1; have hfz25_2 := blk_frozen BK403.out 2; have hfz25_3 := blk_frozen BK403.out 3; have hfz25_4 := blk_frozen BK403.out 4; have hfz25_5 := blk_frozen BK403.out 5) | (go_at_call 12; (with_reducible refine (rollcallref17_One.calls k a1_0 a1_1 a1_2 a1_3 a1_4 a1_5 t410 _ A15.out).mono ?_); rintro e w26 ⟨rfl, hb⟩; replace HO408 := Aside0.mk (Kd.R_below (rS HO408.out) hb); replace BK402 := Aside0.mk (blk_below (bS BK402.out) hb); replace BK403 := Aside0.mk (blk_below (bS BK403.out) hb); replace HB := Aside0.mk (below_step (hS HB.out) hb); (try clear hb); (try clear hb2); (try clear hk); (try clear hi))); try go_wp2_with (first | (go_at_call 8; (with_reducible refine (rollcallref17_Few.calls k _ _ l0_0 a0_1 true _ ?side1 ?side2 A9.out).mono ?_); (case side1 => repeat (first | exact (Kd.C_below HR0_0.out HB.out) | (with_reducible refine Kd.C_alloc ?_ _) | (with_reducible refine Kd.C_drewN ?_ _) | (with_reducible refine Kd.C_drew ?_))); (case side2 => exact HC0_0.out); rintro e w18 ⟨rfl, hb⟩; replace BK402 := Aside0.mk (blk_below (bS BK402.out) hb); replace BK403 := Aside0.mk (blk_below (bS BK403.out) hb); replace HB := Aside0.mk (below_step (hS HB.out) hb); (try clear hb); (try clear hb2); (try clear hk); (try clear hi); have hcz19_0 : w18.cell? ⟨gb402, 0, none⟩ = some (.slice A0_0 l0_0.length c0_0) := (blk_cell BK402.out 0).trans rfl; have hcz19_1 : w18.cell? ⟨gb402, 1, none⟩ = some (.bool a0_1) := (blk_cell BK402.out 1).trans rfl; have hfz19_0 := blk_frozen BK402.out 0; have hfz19_1 := blk_frozen BK402.out 1) | (go_at_call 14; (with_reducible refine (rollcallref17_May.calls k _ _ l0_0 a0_1 a2 true _ ?side1 ?side2 A11.out).mono ?_); (case side1 => repeat (first | exact (Kd.C_below HR0_0.out HB.out) | (with_reducible refine Kd.C_alloc ?_ _) | (with_reducible refine Kd.C_drewN ?_ _) | (with_reducible refine Kd.C_drew ?_))); (case side2 => exact HC0_0.out); rintro e w20 ⟨rfl, hb⟩; replace BK402 := Aside0.mk (blk_below (bS BK402.out) hb); replace BK403 := Aside0.mk (blk_below (bS BK403.out) hb); replace HB := Aside0.mk (below_step (hS HB.out) hb); (try clear hb); (try clear hb2); (try clear hk); (try clear hi); have hcz21_0 : w20.cell? ⟨gb403, 0, none⟩ = some (.string a1_0) := (blk_cell BK403.out 0).trans rfl; have hcz21_1 : w20.cell? ⟨gb403, 1, none⟩ = some (.bool a1_1) := (blk_cell BK403.out 1).trans rfl; have hcz21_2 : w20.cell? ⟨gb403, 2, none⟩ = some (.int .i64 a1_2) := (blk_cell BK403.out 2).trans rfl; have hcz21_3 : w20.cell? ⟨gb403, 3, none⟩ = some (.int .i64 a1_3) := (blk_cell BK403.out 3).trans rfl; have hcz21_4 : w20.cell? ⟨gb403, 4, none⟩ = some (.int .i64 a1_4) := (blk_cell BK403.out 4).trans rfl; have hcz21_5 : w20.cell? ⟨gb403, 5, none⟩ = some (.string a1_5) := (blk_cell BK403.out 5).trans rfl; have hfz21_0 := blk_frozen BK403.out 0; have hfz21_1 := blk_frozen BK403.out 1; have hfz21_2 := blk_frozen BK403.out 2; have hfz21_3 := blk_frozen BK403.out 3; have hfz21_4 := blk_frozen BK403.out 4; have hfz21_5 := blk_frozen BK403.out 5) | ((with_reducible refine gate_dst (N := 32) rfl ?_); (try (refine gate_guard (by rfl) ?_; dsimp only)); refine Kd.R_lit k33 _ 33 ?hg (N := 32) ?hd (xs := ([(⟨a1_0, a1_1, (⟨a1_2, a1_3, a1_4, a1_5⟩ : S31)⟩ : S33)] : List (S33))) (inner := [.string a1_0, .bool a1_1, .int .i64 a1_2, .int .i64 a1_3, .int .i64 a1_4, .string a1_5]) (ok := fun _ => True) (okp := fun _ => True) ?hr ?hp (fun _ hk => hk) trivial (Below.refl _ _) (Nat.le_refl _) (by simp) ?_; (case hd => rfl); (case hg => rfl); (case hr => first | (go_simp; done) | (go_simp; rfl)); (case hp => exact (Reps.c6 (show Kd.M k33 _ _ _ (⟨a1_0, a1_1, (⟨a1_2, a1_3, a1_4, a1_5⟩ : S31)⟩ : S33) [.string a1_0, .bool a1_1, .int .i64 a1_2, .int .i64 a1_3, .int .i64 a1_4, .string a1_5] from (k33_mkM _ _ _ (⟨a1_0, a1_1, (⟨a1_2, a1_3, a1_4, a1_5⟩ : S31)⟩ : S33) )) (Reps.none _ _))); intro v407 w22 ho23 hb hg_ hnew_; clear hg_ hnew_; (first | rw [← Ny406.out] at ho23 | (simp only [Int.reduceToNat] at ho23; rw [← Ny406.out] at ho23)); have HO408 := Aside0.mk (Kd.R_lower (Kd.R_newB ho23 (bS BK403.out)) (below_size (hS HB.out))); replace BK402 := Aside0.mk (blk_below (bS BK402.out) hb); replace BK403 := Aside0.mk (blk_below (bS BK403.out) hb); replace HB := Aside0.mk (below_step (hS HB.out) hb); clear hb ho23; obtain ⟨Ao24, co24, eo24⟩ := Kd.R_slice HO408.out; subst eo24) | (go_at_call 25; (with_reducible refine (rollcallref17_Changes.calls k _ _ y406 1 true _ ?side1 ?side2 A13.out).mono ?_); (case side1 => repeat (first | exact (Kd.R_reads' HO408.out).2.2 | (with_reducible refine Kd.C_alloc ?_ _) | (with_reducible refine Kd.C_drewN ?_ _) | (with_reducible refine Kd.C_drew ?_))); (case side2 => exact (Kd.R_reads' HO408.out).2.1); rintro e w' ⟨rfl, ⟨nd, rfl⟩⟩; (try first | exact ⟨rfl, _, World.drewN_drewN _ _ _⟩ | exact ⟨rfl, _, Eq.trans (World.drewN_drewN _ _ _) (congrArg (World.drewN _) (Nat.add_assoc _ _ _))⟩); have hcz25_0 : w22.cell? ⟨gb403, 0, none⟩ = some (.string a1_0) := (blk_cell BK403.out 0).trans rfl; have hcz25_1 : w22.cell? ⟨gb403, 1, none⟩ = some (.bool a1_1) := (blk_cell BK403.out 1).trans rfl; have hcz25_2 : w22.cell? ⟨gb403, 2, none⟩ = some (.int .i64 a1_2) := (blk_cell BK403.out 2).trans rfl; have hcz25_3 : w22.cell? ⟨gb403, 3, none⟩ = some (.int .i64 a1_3) := (blk_cell BK403.out 3).trans rfl; have hcz25_4 : w22.cell? ⟨gb403, 4, none⟩ = some (.int .i64 a1_4) := (blk_cell BK403.out 4).trans rfl; have hcz25_5 : w22.cell? ⟨gb403, 5, none⟩ = some (.string a1_5) := (blk_cell BK403.out 5).trans rfl; have hfz25_0 := blk_frozen BK403.out 0; have hfz25_1 := blk_frozen BK403.out 1; have hfz25_2 := blk_frozen BK403.out 2; have hfz25_3 := blk_frozen BK403.out 3; have hfz25_4 := blk_frozen BK403.out 4; have hfz25_5 := blk_frozen BK403.out 5) | (go_at_call 12; (with_reducible refine (rollcallref17_One.calls k a1_0 a1_1 a1_2 a1_3 a1_4 a1_5 t410 _ A15.out).mono ?_); rintro e w26 ⟨rfl, hb⟩; replace HO408 := Aside0.mk (Kd.R_below (rS HO408.out) hb); replace BK402 := Aside0.mk (blk_below (bS BK402.out) hb); replace BK403 := Aside0.mk (blk_below (bS BK403.out) hb); replace HB := Aside0.mk (below_step (hS HB.out) hb); (try clear hb); (try clear hb2); (try clear hk); (try clear hi))))
              go_meet
              case rel => exact ⟨_, (!t410), (by first | rfl | (simp; done) | (simp [*]; done)), H', ⟨by first | omega | exact Nat.le_refl _⟩, ⟨bS BK402.out⟩, ⟨bS BK403.out⟩, ⟨by repeat (first | (with_reducible first | exact HB.out | apply below_alloc | apply pw_below_drewN | apply below_drew1 | refine below_set ?_ GE402.out | refine below_set ?_ GE403.out) | exact HB.out)⟩⟩
            · replace c14 := Bool.eq_false_iff.mpr c14
              subst c14
              have H1 : (rollcalllaw17_QueueMay.j0 k a2 true l0_0 a0_1 a1_0 a1_1 a1_2 a1_3 a1_4 a1_5) = some r := by rw [if_neg (show ¬ (false = true) by decide)] at H; exact H
              clear H
              have H := H1
              clear H1
              have H' := Aside0.mk H
              clear H
              have hnb27 := NB402_403.out
              have hnc27 := NB403_402.out
              have hcz28_0 : w6.cell? ⟨gb402, 0, none⟩ = some (.slice A0_0 l0_0.length c0_0) := (blk_cell BK402.out 0).trans rfl
              have hcz28_1 : w6.cell? ⟨gb402, 1, none⟩ = some (.bool a0_1) := (blk_cell BK402.out 1).trans rfl
              have hfz28_0 := blk_frozen BK402.out 0
              have hfz28_1 := blk_frozen BK402.out 1
              go_wp2_with (first | (go_at_call 8; (with_reducible refine (rollcallref17_Few.calls k _ _ l0_0 a0_1 true _ ?side1 ?side2 A9.out).mono ?_); (case side1 => repeat (first | exact (Kd.C_below HR0_0.out HB.out) | (with_reducible refine Kd.C_alloc ?_ _) | (with_reducible refine Kd.C_drewN ?_ _) | (with_reducible refine Kd.C_drew ?_))); (case side2 => exact HC0_0.out); rintro e w29 ⟨rfl, hb⟩; replace BK402 := Aside0.mk (blk_below (bS BK402.out) hb); replace BK403 := Aside0.mk (blk_below (bS BK403.out) hb); replace HB := Aside0.mk (below_step (hS HB.out) hb); (try clear hb); (try clear hb2); (try clear hk); (try clear hi); have hcz30_0 : w29.cell? ⟨gb402, 0, none⟩ = some (.slice A0_0 l0_0.length c0_0) := (blk_cell BK402.out 0).trans rfl; have hcz30_1 : w29.cell? ⟨gb402, 1, none⟩ = some (.bool a0_1) := (blk_cell BK402.out 1).trans rfl; have hfz30_0 := blk_frozen BK402.out 0; have hfz30_1 := blk_frozen BK402.out 1) | (go_at_call 14; (with_reducible refine (rollcallref17_May.calls k _ _ l0_0 a0_1 a2 true _ ?side1 ?side2 A11.out).mono ?_); (case side1 => repeat (first | exact (Kd.C_below HR0_0.out HB.out) | (with_reducible refine Kd.C_alloc ?_ _) | (with_reducible refine Kd.C_drewN ?_ _) | (with_reducible refine Kd.C_drew ?_))); (case side2 => exact HC0_0.out); rintro e w31 ⟨rfl, hb⟩; replace BK402 := Aside0.mk (blk_below (bS BK402.out) hb); replace BK403 := Aside0.mk (blk_below (bS BK403.out) hb); replace HB := Aside0.mk (below_step (hS HB.out) hb); (try clear hb); (try clear hb2); (try clear hk); (try clear hi); have hcz32_0 : w31.cell? ⟨gb403, 0, none⟩ = some (.string a1_0) := (blk_cell BK403.out 0).trans rfl; have hcz32_1 : w31.cell? ⟨gb403, 1, none⟩ = some (.bool a1_1) := (blk_cell BK403.out 1).trans rfl; have hcz32_2 : w31.cell? ⟨gb403, 2, none⟩ = some (.int .i64 a1_2) := (blk_cell BK403.out 2).trans rfl; have hcz32_3 : w31.cell? ⟨gb403, 3, none⟩ = some (.int .i64 a1_3) := (blk_cell BK403.out 3).trans rfl; have hcz32_4 : w31.cell? ⟨gb403, 4, none⟩ = some (.int .i64 a1_4) := (blk_cell BK403.out 4).trans rfl; have hcz32_5 : w31.cell? ⟨gb403, 5, none⟩ = some (.string a1_5) := (blk_cell BK403.out 5).trans rfl; have hfz32_0 := blk_frozen BK403.out 0; have hfz32_1 := blk_frozen BK403.out 1; have hfz32_2 := blk_frozen BK403.out 2; have hfz32_3 := blk_frozen BK403.out 3; have hfz32_4 := blk_frozen BK403.out 4; have hfz32_5 := blk_frozen BK403.out 5) | ((with_reducible refine gate_dst (N := 32) rfl ?_); (try (refine gate_guard (by rfl) ?_; dsimp only)); refine Kd.R_lit k33 _ 33 ?hg (N := 32) ?hd (xs := ([(⟨a1_0, a1_1, (⟨a1_2, a1_3, a1_4, a1_5⟩ : S31)⟩ : S33)] : List (S33))) (inner := [.string a1_0, .bool a1_1, .int .i64 a1_2, .int .i64 a1_3, .int .i64 a1_4, .string a1_5]) (ok := fun _ => True) (okp := fun _ => True) ?hr ?hp (fun _ hk => hk) trivial (Below.refl _ _) (Nat.le_refl _) (by simp) ?_; (case hd => rfl); (case hg => rfl); (case hr => first | (go_simp; done) | (go_simp; rfl)); (case hp => exact (Reps.c6 (show Kd.M k33 _ _ _ (⟨a1_0, a1_1, (⟨a1_2, a1_3, a1_4, a1_5⟩ : S31)⟩ : S33) [.string a1_0, .bool a1_1, .int .i64 a1_2, .int .i64 a1_3, .int .i64 a1_4, .string a1_5] from (k33_mkM _ _ _ (⟨a1_0, a1_1, (⟨a1_2, a1_3, a1_4, a1_5⟩ : S31)⟩ : S33) )) (Reps.none _ _))); intro v407 w33 ho34 hb hg_ hnew_; clear hg_ hnew_; (first | rw [← Ny406.out] at ho34 | (simp only [Int.reduceToNat] at ho34; rw [← Ny406.out] at ho34)); have HO408 := Aside0.mk (Kd.R_lower (Kd.R_newB ho34 (bS BK403.out)) (below_size (hS HB.out))); replace BK402 := Aside0.mk (blk_below (bS BK402.out) hb); replace BK403 := Aside0.mk (blk_below (bS BK403.out) hb); replace HB := Aside0.mk (below_step (hS HB.out) hb); clear hb ho34; obtain ⟨Ao35, co35, eo35⟩ := Kd.R_slice HO408.out; subst eo35) | (go_at_call 25; (with_reducible refine (rollcallref17_Changes.calls k _ _ y406 1 false _ ?side1 ?side2 A13.out).mono ?_); (case side1 => repeat (first | exact (Kd.R_reads' HO408.out).2.2 | (with_reducible refine Kd.C_alloc ?_ _) | (with_reducible refine Kd.C_drewN ?_ _) | (with_reducible refine Kd.C_drew ?_))); (case side2 => exact (Kd.R_reads' HO408.out).2.1); rintro e w' ⟨rfl, ⟨nd, rfl⟩⟩; (try first | exact ⟨rfl, _, World.drewN_drewN _ _ _⟩ | exact ⟨rfl, _, Eq.trans (World.drewN_drewN _ _ _) (congrArg (World.drewN _) (Nat.add_assoc _ _ _))⟩)))
              repeat (go_quiet (first | (go_at_call 8; (with_reducible refine (rollcallref17_Few.calls k _ _ l0_0 a0_1 true _ ?side1 ?side2 A9.out).mono ?_); (case side1 => repeat (first | exact (Kd.C_below HR0_0.out HB.out) | (with_reducible refine Kd.C_alloc ?_ _) | (with_reducible refine Kd.C_drewN ?_ _) | (with_reducible refine Kd.C_drew ?_))); (case side2 => exact HC0_0.out); rintro e w29 ⟨rfl, hb⟩; replace BK402 := Aside0.mk (blk_below (bS BK402.out) hb); replace BK403 := Aside0.mk (blk_below (bS BK403.out) hb); replace HB := Aside0.mk (below_step (hS HB.out) hb); (try clear hb); (try clear hb2); (try clear hk); (try clear hi); have hcz30_0 : w29.cell? ⟨gb402, 0, none⟩ = some (.slice A0_0 l0_0.length c0_0) := (blk_cell BK402.out 0).trans rfl; have hcz30_1 : w29.cell? ⟨gb402, 1, none⟩ = some (.bool a0_1) := (blk_cell BK402.out 1).trans rfl; have hfz30_0 := blk_frozen BK402.out 0; have hfz30_1 := blk_frozen BK402.out 1) | (go_at_call 14; (with_reducible refine (rollcallref17_May.calls k _ _ l0_0 a0_1 a2 true _ ?side1 ?side2 A11.out).mono ?_); (case side1 => repeat (first | exact (Kd.C_below HR0_0.out HB.out) | (with_reducible refine Kd.C_alloc ?_ _) | (with_reducible refine Kd.C_drewN ?_ _) | (with_reducible refine Kd.C_drew ?_))); (case side2 => exact HC0_0.out); rintro e w31 ⟨rfl, hb⟩; replace BK402 := Aside0.mk (blk_below (bS BK402.out) hb); replace BK403 := Aside0.mk (blk_below (bS BK403.out) hb); replace HB := Aside0.mk (below_step (hS HB.out) hb); (try clear hb); (try clear hb2); (try clear hk); (try clear hi); have hcz32_0 : w31.cell? ⟨gb403, 0, none⟩ = some (.string a1_0) := (blk_cell BK403.out 0).trans rfl; have hcz32_1 : w31.cell? ⟨gb403, 1, none⟩ = some (.bool a1_1) := (blk_cell BK403.out 1).trans rfl; have hcz32_2 : w31.cell? ⟨gb403, 2, none⟩ = some (.int .i64 a1_2) := (blk_cell BK403.out 2).trans rfl; have hcz32_3 : w31.cell? ⟨gb403, 3, none⟩ = some (.int .i64 a1_3) := (blk_cell BK403.out 3).trans rfl; have hcz32_4 : w31.cell? ⟨gb403, 4, none⟩ = some (.int .i64 a1_4) := (blk_cell BK403.out 4).trans rfl; have hcz32_5 : w31.cell? ⟨gb403, 5, none⟩ = some (.string a1_5) := (blk_cell BK403.out 5).trans rfl; have hfz32_0 := blk_frozen BK403.out 0; have hfz32_1 := blk_frozen BK403.out 1; have hfz32_2 := blk_frozen BK403.out 2; have hfz32_3 := blk_frozen BK403.out 3; have hfz32_4 := blk_frozen BK403.out 4; have hfz32_5 := blk_frozen BK403.out 5) | ((with_reducible refine gate_dst (N := 32) rfl ?_); (try (refine gate_guard (by rfl) ?_; dsimp only)); refine Kd.R_lit k33 _ 33 ?hg (N := 32) ?hd (xs := ([(⟨a1_0, a1_1, (⟨a1_2, a1_3, a1_4, a1_5⟩ : S31)⟩ : S33)] : List (S33))) (inner := [.string a1_0, .bool a1_1, .int .i64 a1_2, .int .i64 a1_3, .int .i64 a1_4, .string a1_5]) (ok := fun _ => True) (okp := fun _ => True) ?hr ?hp (fun _ hk => hk) trivial (Below.refl _ _) (Nat.le_refl _) (by simp) ?_; (case hd => rfl); (case hg => rfl); (case hr => first | (go_simp; done) | (go_simp; rfl)); (case hp => exact (Reps.c6 (show Kd.M k33 _ _ _ (⟨a1_0, a1_1, (⟨a1_2, a1_3, a1_4, a1_5⟩ : S31)⟩ : S33) [.string a1_0, .bool a1_1, .int .i64 a1_2, .int .i64 a1_3, .int .i64 a1_4, .string a1_5] from (k33_mkM _ _ _ (⟨a1_0, a1_1, (⟨a1_2, a1_3, a1_4, a1_5⟩ : S31)⟩ : S33) )) (Reps.none _ _))); intro v407 w33 ho34 hb hg_ hnew_; clear hg_ hnew_; (first | rw [← Ny406.out] at ho34 | (simp only [Int.reduceToNat] at ho34; rw [← Ny406.out] at ho34)); have HO408 := Aside0.mk (Kd.R_lower (Kd.R_newB ho34 (bS BK403.out)) (below_size (hS HB.out))); replace BK402 := Aside0.mk (blk_below (bS BK402.out) hb); replace BK403 := Aside0.mk (blk_below (bS BK403.out) hb); replace HB := Aside0.mk (below_step (hS HB.out) hb); clear hb ho34; obtain ⟨Ao35, co35, eo35⟩ := Kd.R_slice HO408.out; subst eo35) | (go_at_call 25; (with_reducible refine (rollcallref17_Changes.calls k _ _ y406 1 false _ ?side1 ?side2 A13.out).mono ?_); (case side1 => repeat (first | exact (Kd.R_reads' HO408.out).2.2 | (with_reducible refine Kd.C_alloc ?_ _) | (with_reducible refine Kd.C_drewN ?_ _) | (with_reducible refine Kd.C_drew ?_))); (case side2 => exact (Kd.R_reads' HO408.out).2.1); rintro e w' ⟨rfl, ⟨nd, rfl⟩⟩; (try first | exact ⟨rfl, _, World.drewN_drewN _ _ _⟩ | exact ⟨rfl, _, Eq.trans (World.drewN_drewN _ _ _) (congrArg (World.drewN _) (Nat.add_assoc _ _ _))⟩))); try go_wp2_with (first | (go_at_call 8; (with_reducible refine (rollcallref17_Few.calls k _ _ l0_0 a0_1 true _ ?side1 ?side2 A9.out).mono ?_); (case side1 => repeat (first | exact (Kd.C_below HR0_0.out HB.out) | (with_reducible refine Kd.C_alloc ?_ _) | (with_reducible refine Kd.C_drewN ?_ _) | (with_reducible refine Kd.C_drew ?_))); (case side2 => exact HC0_0.out); rintro e w29 ⟨rfl, hb⟩; replace BK402 := Aside0.mk (blk_below (bS BK402.out) hb); replace BK403 := Aside0.mk (blk_below (bS BK403.out) hb); replace HB := Aside0.mk (below_step (hS HB.out) hb); (try clear hb); (try clear hb2); (try clear hk); (try clear hi); have hcz30_0 : w29.cell? ⟨gb402, 0, none⟩ = some (.slice A0_0 l0_0.length c0_0) := (blk_cell BK402.out 0).trans rfl; have hcz30_1 : w29.cell? ⟨gb402, 1, none⟩ = some (.bool a0_1) := (blk_cell BK402.out 1).trans rfl; have hfz30_0 := blk_frozen BK402.out 0; have hfz30_1 := blk_frozen BK402.out 1) | (go_at_call 14; (with_reducible refine (rollcallref17_May.calls k _ _ l0_0 a0_1 a2 true _ ?side1 ?side2 A11.out).mono ?_); (case side1 => repeat (first | exact (Kd.C_below HR0_0.out HB.out) | (with_reducible refine Kd.C_alloc ?_ _) | (with_reducible refine Kd.C_drewN ?_ _) | (with_reducible refine Kd.C_drew ?_))); (case side2 => exact HC0_0.out); rintro e w31 ⟨rfl, hb⟩; replace BK402 := Aside0.mk (blk_below (bS BK402.out) hb); replace BK403 := Aside0.mk (blk_below (bS BK403.out) hb); replace HB := Aside0.mk (below_step (hS HB.out) hb); (try clear hb); (try clear hb2); (try clear hk); (try clear hi); have hcz32_0 : w31.cell? ⟨gb403, 0, none⟩ = some (.string a1_0) := (blk_cell BK403.out 0).trans rfl; have hcz32_1 : w31.cell? ⟨gb403, 1, none⟩ = some (.bool a1_1) := (blk_cell BK403.out 1).trans rfl; have hcz32_2 : w31.cell? ⟨gb403, 2, none⟩ = some (.int .i64 a1_2) := (blk_cell BK403.out 2).trans rfl; have hcz32_3 : w31.cell? ⟨gb403, 3, none⟩ = some (.int .i64 a1_3) := (blk_cell BK403.out 3).trans rfl; have hcz32_4 : w31.cell? ⟨gb403, 4, none⟩ = some (.int .i64 a1_4) := (blk_cell BK403.out 4).trans rfl; have hcz32_5 : w31.cell? ⟨gb403, 5, none⟩ = some (.string a1_5) := (blk_cell BK403.out 5).trans rfl; have hfz32_0 := blk_frozen BK403.out 0; have hfz32_1 := blk_frozen BK403.out 1; have hfz32_2 := blk_frozen BK403.out 2; have hfz32_3 := blk_frozen BK403.out 3; have hfz32_4 := blk_frozen BK403.out 4; have hfz32_5 := blk_frozen BK403.out 5) | ((with_reducible refine gate_dst (N := 32) rfl ?_); (try (refine gate_guard (by rfl) ?_; dsimp only)); refine Kd.R_lit k33 _ 33 ?hg (N := 32) ?hd (xs := ([(⟨a1_0, a1_1, (⟨a1_2, a1_3, a1_4, a1_5⟩ : S31)⟩ : S33)] : List (S33))) (inner := [.string a1_0, .bool a1_1, .int .i64 a1_2, .int .i64 a1_3, .int .i64 a1_4, .string a1_5]) (ok := fun _ => True) (okp := fun _ => True) ?hr ?hp (fun _ hk => hk) trivial (Below.refl _ _) (Nat.le_refl _) (by simp) ?_; (case hd => rfl); (case hg => rfl); (case hr => first | (go_simp; done) | (go_simp; rfl)); (case hp => exact (Reps.c6 (show Kd.M k33 _ _ _ (⟨a1_0, a1_1, (⟨a1_2, a1_3, a1_4, a1_5⟩ : S31)⟩ : S33) [.string a1_0, .bool a1_1, .int .i64 a1_2, .int .i64 a1_3, .int .i64 a1_4, .string a1_5] from (k33_mkM _ _ _ (⟨a1_0, a1_1, (⟨a1_2, a1_3, a1_4, a1_5⟩ : S31)⟩ : S33) )) (Reps.none _ _))); intro v407 w33 ho34 hb hg_ hnew_; clear hg_ hnew_; (first | rw [← Ny406.out] at ho34 | (simp only [Int.reduceToNat] at ho34; rw [← Ny406.out] at ho34)); have HO408 := Aside0.mk (Kd.R_lower (Kd.R_newB ho34 (bS BK403.out)) (below_size (hS HB.out))); replace BK402 := Aside0.mk (blk_below (bS BK402.out) hb); replace BK403 := Aside0.mk (blk_below (bS BK403.out) hb); replace HB := Aside0.mk (below_step (hS HB.out) hb); clear hb ho34; obtain ⟨Ao35, co35, eo35⟩ := Kd.R_slice HO408.out; subst eo35) | (go_at_call 25; (with_reducible refine (rollcallref17_Changes.calls k _ _ y406 1 false _ ?side1 ?side2 A13.out).mono ?_); (case side1 => repeat (first | exact (Kd.R_reads' HO408.out).2.2 | (with_reducible refine Kd.C_alloc ?_ _) | (with_reducible refine Kd.C_drewN ?_ _) | (with_reducible refine Kd.C_drew ?_))); (case side2 => exact (Kd.R_reads' HO408.out).2.1); rintro e w' ⟨rfl, ⟨nd, rfl⟩⟩; (try first | exact ⟨rfl, _, World.drewN_drewN _ _ _⟩ | exact ⟨rfl, _, Eq.trans (World.drewN_drewN _ _ _) (congrArg (World.drewN _) (Nat.add_assoc _ _ _))⟩))))
              go_meet
              case rel => exact ⟨_, (true), (by first | rfl | (simp; done) | (simp [*]; done)), H', ⟨by first | omega | exact Nat.le_refl _⟩, ⟨bS BK402.out⟩, ⟨bS BK403.out⟩, ⟨by repeat (first | (with_reducible first | exact HB.out | apply below_alloc | apply pw_below_drewN | apply below_drew1 | refine below_set ?_ GE402.out | refine below_set ?_ GE403.out) | exact HB.out)⟩⟩
          · replace c12 := Bool.eq_false_iff.mpr c12
            subst c12
            have H1 : (rollcalllaw17_QueueMay.j0 k a2 true l0_0 a0_1 a1_0 a1_1 a1_2 a1_3 a1_4 a1_5) = some r := by rw [if_neg (show ¬ (false = true) by decide)] at H; exact H
            clear H
            have H := H1
            clear H1
            have H' := Aside0.mk H
            clear H
            have hnb36 := NB402_403.out
            have hnc36 := NB403_402.out
            have hcz37_0 : w6.cell? ⟨gb402, 0, none⟩ = some (.slice A0_0 l0_0.length c0_0) := (blk_cell BK402.out 0).trans rfl
            have hcz37_1 : w6.cell? ⟨gb402, 1, none⟩ = some (.bool a0_1) := (blk_cell BK402.out 1).trans rfl
            have hfz37_0 := blk_frozen BK402.out 0
            have hfz37_1 := blk_frozen BK402.out 1
            go_wp2_with (first | (go_at_call 8; (with_reducible refine (rollcallref17_Few.calls k _ _ l0_0 a0_1 true _ ?side1 ?side2 A9.out).mono ?_); (case side1 => repeat (first | exact (Kd.C_below HR0_0.out HB.out) | (with_reducible refine Kd.C_alloc ?_ _) | (with_reducible refine Kd.C_drewN ?_ _) | (with_reducible refine Kd.C_drew ?_))); (case side2 => exact HC0_0.out); rintro e w38 ⟨rfl, hb⟩; replace BK402 := Aside0.mk (blk_below (bS BK402.out) hb); replace BK403 := Aside0.mk (blk_below (bS BK403.out) hb); replace HB := Aside0.mk (below_step (hS HB.out) hb); (try clear hb); (try clear hb2); (try clear hk); (try clear hi); have hcz39_0 : w38.cell? ⟨gb402, 0, none⟩ = some (.slice A0_0 l0_0.length c0_0) := (blk_cell BK402.out 0).trans rfl; have hcz39_1 : w38.cell? ⟨gb402, 1, none⟩ = some (.bool a0_1) := (blk_cell BK402.out 1).trans rfl; have hfz39_0 := blk_frozen BK402.out 0; have hfz39_1 := blk_frozen BK402.out 1) | (go_at_call 14; (with_reducible refine (rollcallref17_May.calls k _ _ l0_0 a0_1 a2 false _ ?side1 ?side2 A11.out).mono ?_); (case side1 => repeat (first | exact (Kd.C_below HR0_0.out HB.out) | (with_reducible refine Kd.C_alloc ?_ _) | (with_reducible refine Kd.C_drewN ?_ _) | (with_reducible refine Kd.C_drew ?_))); (case side2 => exact HC0_0.out); rintro e w40 ⟨rfl, hb⟩; replace BK402 := Aside0.mk (blk_below (bS BK402.out) hb); replace BK403 := Aside0.mk (blk_below (bS BK403.out) hb); replace HB := Aside0.mk (below_step (hS HB.out) hb); (try clear hb); (try clear hb2); (try clear hk); (try clear hi)))
            repeat (go_quiet (first | (go_at_call 8; (with_reducible refine (rollcallref17_Few.calls k _ _ l0_0 a0_1 true _ ?side1 ?side2 A9.out).mono ?_); (case side1 => repeat (first | exact (Kd.C_below HR0_0.out HB.out) | (with_reducible refine Kd.C_alloc ?_ _) | (with_reducible refine Kd.C_drewN ?_ _) | (with_reducible refine Kd.C_drew ?_))); (case side2 => exact HC0_0.out); rintro e w38 ⟨rfl, hb⟩; replace BK402 := Aside0.mk (blk_below (bS BK402.out) hb); replace BK403 := Aside0.mk (blk_below (bS BK403.out) hb); replace HB := Aside0.mk (below_step (hS HB.out) hb); (try clear hb); (try clear hb2); (try clear hk); (try clear hi); have hcz39_0 : w38.cell? ⟨gb402, 0, none⟩ = some (.slice A0_0 l0_0.length c0_0) := (blk_cell BK402.out 0).trans rfl; have hcz39_1 : w38.cell? ⟨gb402, 1, none⟩ = some (.bool a0_1) := (blk_cell BK402.out 1).trans rfl; have hfz39_0 := blk_frozen BK402.out 0; have hfz39_1 := blk_frozen BK402.out 1) | (go_at_call 14; (with_reducible refine (rollcallref17_May.calls k _ _ l0_0 a0_1 a2 false _ ?side1 ?side2 A11.out).mono ?_); (case side1 => repeat (first | exact (Kd.C_below HR0_0.out HB.out) | (with_reducible refine Kd.C_alloc ?_ _) | (with_reducible refine Kd.C_drewN ?_ _) | (with_reducible refine Kd.C_drew ?_))); (case side2 => exact HC0_0.out); rintro e w40 ⟨rfl, hb⟩; replace BK402 := Aside0.mk (blk_below (bS BK402.out) hb); replace BK403 := Aside0.mk (blk_below (bS BK403.out) hb); replace HB := Aside0.mk (below_step (hS HB.out) hb); (try clear hb); (try clear hb2); (try clear hk); (try clear hi))); try go_wp2_with (first | (go_at_call 8; (with_reducible refine (rollcallref17_Few.calls k _ _ l0_0 a0_1 true _ ?side1 ?side2 A9.out).mono ?_); (case side1 => repeat (first | exact (Kd.C_below HR0_0.out HB.out) | (with_reducible refine Kd.C_alloc ?_ _) | (with_reducible refine Kd.C_drewN ?_ _) | (with_reducible refine Kd.C_drew ?_))); (case side2 => exact HC0_0.out); rintro e w38 ⟨rfl, hb⟩; replace BK402 := Aside0.mk (blk_below (bS BK402.out) hb); replace BK403 := Aside0.mk (blk_below (bS BK403.out) hb); replace HB := Aside0.mk (below_step (hS HB.out) hb); (try clear hb); (try clear hb2); (try clear hk); (try clear hi); have hcz39_0 : w38.cell? ⟨gb402, 0, none⟩ = some (.slice A0_0 l0_0.length c0_0) := (blk_cell BK402.out 0).trans rfl; have hcz39_1 : w38.cell? ⟨gb402, 1, none⟩ = some (.bool a0_1) := (blk_cell BK402.out 1).trans rfl; have hfz39_0 := blk_frozen BK402.out 0; have hfz39_1 := blk_frozen BK402.out 1) | (go_at_call 14; (with_reducible refine (rollcallref17_May.calls k _ _ l0_0 a0_1 a2 false _ ?side1 ?side2 A11.out).mono ?_); (case side1 => repeat (first | exact (Kd.C_below HR0_0.out HB.out) | (with_reducible refine Kd.C_alloc ?_ _) | (with_reducible refine Kd.C_drewN ?_ _) | (with_reducible refine Kd.C_drew ?_))); (case side2 => exact HC0_0.out); rintro e w40 ⟨rfl, hb⟩; replace BK402 := Aside0.mk (blk_below (bS BK402.out) hb); replace BK403 := Aside0.mk (blk_below (bS BK403.out) hb); replace HB := Aside0.mk (below_step (hS HB.out) hb); (try clear hb); (try clear hb2); (try clear hk); (try clear hi))))
            go_meet
            case rel => exact ⟨_, (true), (by first | rfl | (simp; done) | (simp [*]; done)), H', ⟨by first | omega | exact Nat.le_refl _⟩, ⟨bS BK402.out⟩, ⟨bS BK403.out⟩, ⟨by repeat (first | (with_reducible first | exact HB.out | apply below_alloc | apply pw_below_drewN | apply below_drew1 | refine below_set ?_ GE402.out | refine below_set ?_ GE403.out) | exact HB.out)⟩⟩
        · replace c10 := Bool.eq_false_iff.mpr c10
          subst c10
          have H1 : (rollcalllaw17_QueueMay.j0 k a2 true l0_0 a0_1 a1_0 a1_1 a1_2 a1_3 a1_4 a1_5) = some r := by rw [if_neg (show ¬ (false = true) by decide)] at H; exact H
          clear H
          have H := H1
          clear H1
          have H' := Aside0.mk H
          clear H
          have hnb41 := NB402_403.out
          have hnc41 := NB403_402.out
          have hcz42_0 : w6.cell? ⟨gb402, 0, none⟩ = some (.slice A0_0 l0_0.length c0_0) := (blk_cell BK402.out 0).trans rfl
          have hcz42_1 : w6.cell? ⟨gb402, 1, none⟩ = some (.bool a0_1) := (blk_cell BK402.out 1).trans rfl
          have hfz42_0 := blk_frozen BK402.out 0
          have hfz42_1 := blk_frozen BK402.out 1
          go_wp2_with (first | (go_at_call 8; (with_reducible refine (rollcallref17_Few.calls k _ _ l0_0 a0_1 false _ ?side1 ?side2 A9.out).mono ?_); (case side1 => repeat (first | exact (Kd.C_below HR0_0.out HB.out) | (with_reducible refine Kd.C_alloc ?_ _) | (with_reducible refine Kd.C_drewN ?_ _) | (with_reducible refine Kd.C_drew ?_))); (case side2 => exact HC0_0.out); rintro e w43 ⟨rfl, hb⟩; replace BK402 := Aside0.mk (blk_below (bS BK402.out) hb); replace BK403 := Aside0.mk (blk_below (bS BK403.out) hb); replace HB := Aside0.mk (below_step (hS HB.out) hb); (try clear hb); (try clear hb2); (try clear hk); (try clear hi)))
          repeat (go_quiet (first | (go_at_call 8; (with_reducible refine (rollcallref17_Few.calls k _ _ l0_0 a0_1 false _ ?side1 ?side2 A9.out).mono ?_); (case side1 => repeat (first | exact (Kd.C_below HR0_0.out HB.out) | (with_reducible refine Kd.C_alloc ?_ _) | (with_reducible refine Kd.C_drewN ?_ _) | (with_reducible refine Kd.C_drew ?_))); (case side2 => exact HC0_0.out); rintro e w43 ⟨rfl, hb⟩; replace BK402 := Aside0.mk (blk_below (bS BK402.out) hb); replace BK403 := Aside0.mk (blk_below (bS BK403.out) hb); replace HB := Aside0.mk (below_step (hS HB.out) hb); (try clear hb); (try clear hb2); (try clear hk); (try clear hi))); try go_wp2_with (first | (go_at_call 8; (with_reducible refine (rollcallref17_Few.calls k _ _ l0_0 a0_1 false _ ?side1 ?side2 A9.out).mono ?_); (case side1 => repeat (first | exact (Kd.C_below HR0_0.out HB.out) | (with_reducible refine Kd.C_alloc ?_ _) | (with_reducible refine Kd.C_drewN ?_ _) | (with_reducible refine Kd.C_drew ?_))); (case side2 => exact HC0_0.out); rintro e w43 ⟨rfl, hb⟩; replace BK402 := Aside0.mk (blk_below (bS BK402.out) hb); replace BK403 := Aside0.mk (blk_below (bS BK403.out) hb); replace HB := Aside0.mk (below_step (hS HB.out) hb); (try clear hb); (try clear hb2); (try clear hk); (try clear hi))))
          go_meet
          case rel => exact ⟨_, (true), (by first | rfl | (simp; done) | (simp [*]; done)), H', ⟨by first | omega | exact Nat.le_refl _⟩, ⟨bS BK402.out⟩, ⟨bS BK403.out⟩, ⟨by repeat (first | (with_reducible first | exact HB.out | apply below_alloc | apply pw_below_drewN | apply below_drew1 | refine below_set ?_ GE402.out | refine below_set ?_ GE403.out) | exact HB.out)⟩⟩
  case rest =>
    clear HC4
    try clear c1
    try clear c2
    try clear p2
    try clear c3
    try clear c4
    try clear c5
    try clear c6
    try clear c7
    try clear c7b0
    try clear c8
    try clear c8b0
    try clear c10
    try clear c12
    try clear c14
    try clear c16
    try clear c27
    try clear c36
    try clear c41
    try clear hcz17_0
    try clear hcz17_1
    try clear hcz19_0
    try clear hcz19_1
    try clear hcz21_0
    try clear hcz21_1
    try clear hcz21_2
    try clear hcz21_3
    try clear hcz21_4
    try clear hcz21_5
    try clear hcz25_0
    try clear hcz25_1
    try clear hcz25_2
    try clear hcz25_3
    try clear hcz25_4
    try clear hcz25_5
    try clear hcz28_0
    try clear hcz28_1
    try clear hcz30_0
    try clear hcz30_1
    try clear hcz32_0
    try clear hcz32_1
    try clear hcz32_2
    try clear hcz32_3
    try clear hcz32_4
    try clear hcz32_5
    try clear hcz37_0
    try clear hcz37_1
    try clear hcz39_0
    try clear hcz39_1
    try clear hcz42_0
    try clear hcz42_1
    try clear hfz17_0
    try clear hfz17_1
    try clear hfz19_0
    try clear hfz19_1
    try clear hfz21_0
    try clear hfz21_1
    try clear hfz21_2
    try clear hfz21_3
    try clear hfz21_4
    try clear hfz21_5
    try clear hfz25_0
    try clear hfz25_1
    try clear hfz25_2
    try clear hfz25_3
    try clear hfz25_4
    try clear hfz25_5
    try clear hfz28_0
    try clear hfz28_1
    try clear hfz30_0
    try clear hfz30_1
    try clear hfz32_0
    try clear hfz32_1
    try clear hfz32_2
    try clear hfz32_3
    try clear hfz32_4
    try clear hfz32_5
    try clear hfz37_0
    try clear hfz37_1
    try clear hfz39_0
    try clear hfz39_1
    try clear hfz42_0
    try clear hfz42_1
    obtain ⟨kq, x40_3, rfl, HA, HJ3, BK402, BK403, HB⟩ := hcut
    cases kq with
    | zero => exact absurd HA.out (by simp [rollcalllaw17_QueueMay.j0])
    | succ kj3 =>
      have H := HA.out
      clear HA
      simp only [rollcalllaw17_QueueMay.j0] at H
      by_cases c44 : x40_3 = true
      · subst c44
        have H1 : ((rollcalllaw17_live.f kj3).bind fun t411 => (some t411)) = some r := by rw [if_pos rfl] at H; exact H
        clear H
        have H := H1
        clear H1
        replace H := Option.bind_eq_some_iff.mp H
        obtain ⟨t411, A450, H⟩ := H
        replace H : (some t411) = some r := H
        have A45 := Aside0.mk A450
        clear A450
        obtain rfl := Option.some.inj H
        go_wp2_with (first | (go_at_call 10; (with_reducible refine (rollcalllaw17_live.calls kj3  t411 _ A45.out).mono ?_); rintro e w46 ⟨rfl, hb⟩; replace BK402 := Aside0.mk (blk_below (bS BK402.out) hb); replace BK403 := Aside0.mk (blk_below (bS BK403.out) hb); replace HB := Aside0.mk (below_step (hS HB.out) hb); (try clear hb); (try clear hb2); (try clear hk); (try clear hi)))
        repeat (go_quiet (first | (go_at_call 10; (with_reducible refine (rollcalllaw17_live.calls kj3  t411 _ A45.out).mono ?_); rintro e w46 ⟨rfl, hb⟩; replace BK402 := Aside0.mk (blk_below (bS BK402.out) hb); replace BK403 := Aside0.mk (blk_below (bS BK403.out) hb); replace HB := Aside0.mk (below_step (hS HB.out) hb); (try clear hb); (try clear hb2); (try clear hk); (try clear hi))); try go_wp2_with (first | (go_at_call 10; (with_reducible refine (rollcalllaw17_live.calls kj3  t411 _ A45.out).mono ?_); rintro e w46 ⟨rfl, hb⟩; replace BK402 := Aside0.mk (blk_below (bS BK402.out) hb); replace BK403 := Aside0.mk (blk_below (bS BK403.out) hb); replace HB := Aside0.mk (below_step (hS HB.out) hb); (try clear hb); (try clear hb2); (try clear hk); (try clear hi))))
        go_ret
        exact ⟨by first | rfl | (simp [errW_none, errW_some] <;> rfl) | (simp [*, errW_none, errW_some] <;> rfl), by repeat (first | (with_reducible first | exact HB.out | apply below_alloc | apply pw_below_drewN | apply below_drew1 | refine below_set ?_ GE402.out | refine below_set ?_ GE403.out) | exact HB.out)⟩
      · replace c44 := Bool.eq_false_iff.mpr c44
        subst c44
        have H1 : ((queue_Push.f l0_0 a0_1 a1_0 a1_1 a1_2 a1_3 a1_4 a1_5 a2).bind fun bt412 => ((queue_May.f kj3 bt412.1 bt412.2 a2).bind fun t417 => (if t417 = true then (if bt412.2 = true then ((queue_Find.f l0_0 a0_1 a1_0).bind fun bt418 => (if (bt412.1.length : Int) = 0 then (if a0_1 = true then ((rollcalllaw17_live.f kj3).bind fun t426 => (some t426)) else (if bt418.2.2.2.2.2.2 = true then (some false) else (if (l0_0.length : Int) = a2 then ((rollcalllaw17_live.f kj3).bind fun t427 => (some t427)) else (some false)))) else (some false))) else ((queue_Find.f bt412.1 bt412.2 a1_0).bind fun bt428 => (if bt428.2.2.2.2.2.2 = true then (if (!(bt428.1.toList == a1_0.toList) || (!(bt428.2.1 == a1_1) || ((!(bt428.2.2.1 == a1_2) || (!(bt428.2.2.2.1 == a1_3) || (!(bt428.2.2.2.2.1 == a1_4) || (!(bt428.2.2.2.2.2.1.toList == a1_5.toList)))))))) = true then (rollcalllaw17_QueueMay.j1 kj3 true l0_0 a0_1 a1_0 a1_1 a1_2 a1_3 a1_4 a1_5 bt412.1 bt412.2) else (if a0_1 = true then (rollcalllaw17_QueueMay.j1 kj3 true l0_0 a0_1 a1_0 a1_1 a1_2 a1_3 a1_4 a1_5 bt412.1 bt412.2) else (if (bt412.1.length : Int) < (l0_0.length : Int) then (rollcalllaw17_QueueMay.j1 kj3 true l0_0 a0_1 a1_0 a1_1 a1_2 a1_3 a1_4 a1_5 bt412.1 bt412.2) else (rollcalllaw17_QueueMay.j1 kj3 (decide ((bt412.1.length : Int) > (wrap64 ((l0_0.length : Int) + 1)))) l0_0 a0_1 a1_0 a1_1 a1_2 a1_3 a1_4 a1_5 bt412.1 bt412.2)))) else (rollcalllaw17_QueueMay.j1 kj3 true l0_0 a0_1 a1_0 a1_1 a1_2 a1_3 a1_4 a1_5 bt412.1 bt412.2)))) else (some false)))) = some r := by rw [if_neg (show ¬ (false = true) by decide)] at H; exact H
        clear H
        have H := H1
        clear H1
        replace H := Option.bind_eq_some_iff.mp H
        obtain ⟨⟨t412, t415⟩, A470, H⟩ := H
        replace H : ((queue_May.f kj3 t412 t415 a2).bind fun t417 => (if t417 = true then (if t415 = true then ((queue_Find.f l0_0 a0_1 a1_0).bind fun bt418 => (if (t412.length : Int) = 0 then (if a0_1 = true then ((rollcalllaw17_live.f kj3).bind fun t426 => (some t426)) else (if bt418.2.2.2.2.2.2 = true then (some false) else (if (l0_0.length : Int) = a2 then ((rollcalllaw17_live.f kj3).bind fun t427 => (some t427)) else (some false)))) else (some false))) else ((queue_Find.f t412 t415 a1_0).bind fun bt428 => (if bt428.2.2.2.2.2.2 = true then (if (!(bt428.1.toList == a1_0.toList) || (!(bt428.2.1 == a1_1) || ((!(bt428.2.2.1 == a1_2) || (!(bt428.2.2.2.1 == a1_3) || (!(bt428.2.2.2.2.1 == a1_4) || (!(bt428.2.2.2.2.2.1.toList == a1_5.toList)))))))) = true then (rollcalllaw17_QueueMay.j1 kj3 true l0_0 a0_1 a1_0 a1_1 a1_2 a1_3 a1_4 a1_5 t412 t415) else (if a0_1 = true then (rollcalllaw17_QueueMay.j1 kj3 true l0_0 a0_1 a1_0 a1_1 a1_2 a1_3 a1_4 a1_5 t412 t415) else (if (t412.length : Int) < (l0_0.length : Int) then (rollcalllaw17_QueueMay.j1 kj3 true l0_0 a0_1 a1_0 a1_1 a1_2 a1_3 a1_4 a1_5 t412 t415) else (rollcalllaw17_QueueMay.j1 kj3 (decide ((t412.length : Int) > (wrap64 ((l0_0.length : Int) + 1)))) l0_0 a0_1 a1_0 a1_1 a1_2 a1_3 a1_4 a1_5 t412 t415)))) else (rollcalllaw17_QueueMay.j1 kj3 true l0_0 a0_1 a1_0 a1_1 a1_2 a1_3 a1_4 a1_5 t412 t415)))) else (some false))) = some r := H
        have A47 := Aside0.mk A470
        clear A470
        replace H := Option.bind_eq_some_iff.mp H
        obtain ⟨t417, A480, H⟩ := H
        replace H : (if t417 = true then (if t415 = true then ((queue_Find.f l0_0 a0_1 a1_0).bind fun bt418 => (if (t412.length : Int) = 0 then (if a0_1 = true then ((rollcalllaw17_live.f kj3).bind fun t426 => (some t426)) else (if bt418.2.2.2.2.2.2 = true then (some false) else (if (l0_0.length : Int) = a2 then ((rollcalllaw17_live.f kj3).bind fun t427 => (some t427)) else (some false)))) else (some false))) else ((queue_Find.f t412 t415 a1_0).bind fun bt428 => (if bt428.2.2.2.2.2.2 = true then (if (!(bt428.1.toList == a1_0.toList) || (!(bt428.2.1 == a1_1) || ((!(bt428.2.2.1 == a1_2) || (!(bt428.2.2.2.1 == a1_3) || (!(bt428.2.2.2.2.1 == a1_4) || (!(bt428.2.2.2.2.2.1.toList == a1_5.toList)))))))) = true then (rollcalllaw17_QueueMay.j1 kj3 true l0_0 a0_1 a1_0 a1_1 a1_2 a1_3 a1_4 a1_5 t412 t415) else (if a0_1 = true then (rollcalllaw17_QueueMay.j1 kj3 true l0_0 a0_1 a1_0 a1_1 a1_2 a1_3 a1_4 a1_5 t412 t415) else (if (t412.length : Int) < (l0_0.length : Int) then (rollcalllaw17_QueueMay.j1 kj3 true l0_0 a0_1 a1_0 a1_1 a1_2 a1_3 a1_4 a1_5 t412 t415) else (rollcalllaw17_QueueMay.j1 kj3 (decide ((t412.length : Int) > (wrap64 ((l0_0.length : Int) + 1)))) l0_0 a0_1 a1_0 a1_1 a1_2 a1_3 a1_4 a1_5 t412 t415)))) else (rollcalllaw17_QueueMay.j1 kj3 true l0_0 a0_1 a1_0 a1_1 a1_2 a1_3 a1_4 a1_5 t412 t415)))) else (some false)) = some r := H
        have A48 := Aside0.mk A480
        clear A480
        by_cases c49 : t417 = true
        · subst c49
          have H1 : (if t415 = true then ((queue_Find.f l0_0 a0_1 a1_0).bind fun bt418 => (if (t412.length : Int) = 0 then (if a0_1 = true then ((rollcalllaw17_live.f kj3).bind fun t426 => (some t426)) else (if bt418.2.2.2.2.2.2 = true then (some false) else (if (l0_0.length : Int) = a2 then ((rollcalllaw17_live.f kj3).bind fun t427 => (some t427)) else (some false)))) else (some false))) else ((queue_Find.f t412 t415 a1_0).bind fun bt428 => (if bt428.2.2.2.2.2.2 = true then (if (!(bt428.1.toList == a1_0.toList) || (!(bt428.2.1 == a1_1) || ((!(bt428.2.2.1 == a1_2) || (!(bt428.2.2.2.1 == a1_3) || (!(bt428.2.2.2.2.1 == a1_4) || (!(bt428.2.2.2.2.2.1.toList == a1_5.toList)))))))) = true then (rollcalllaw17_QueueMay.j1 kj3 true l0_0 a0_1 a1_0 a1_1 a1_2 a1_3 a1_4 a1_5 t412 t415) else (if a0_1 = true then (rollcalllaw17_QueueMay.j1 kj3 true l0_0 a0_1 a1_0 a1_1 a1_2 a1_3 a1_4 a1_5 t412 t415) else (if (t412.length : Int) < (l0_0.length : Int) then (rollcalllaw17_QueueMay.j1 kj3 true l0_0 a0_1 a1_0 a1_1 a1_2 a1_3 a1_4 a1_5 t412 t415) else (rollcalllaw17_QueueMay.j1 kj3 (decide ((t412.length : Int) > (wrap64 ((l0_0.length : Int) + 1)))) l0_0 a0_1 a1_0 a1_1 a1_2 a1_3 a1_4 a1_5 t412 t415)))) else (rollcalllaw17_QueueMay.j1 kj3 true l0_0 a0_1 a1_0 a1_1 a1_2 a1_3 a1_4 a1_5 t412 t415)))) = some r := by rw [if_pos rfl] at H; exact H
          clear H
          have H := H1
          clear H1
          by_cases c50 : t415 = true
          · subst c50
            have H1 : ((queue_Find.f l0_0 a0_1 a1_0).bind fun bt418 => (if (t412.length : Int) = 0 then (if a0_1 = true then ((rollcalllaw17_live.f kj3).bind fun t426 => (some t426)) else (if bt418.2.2.2.2.2.2 = true then (some false) else (if (l0_0.length : Int) = a2 then ((rollcalllaw17_live.f kj3).bind fun t427 => (some t427)) else (some false)))) else (some false))) = some r := by rw [if_pos rfl] at H; exact H
            clear H
            have H := H1
            clear H1
            replace H := Option.bind_eq_some_iff.mp H
            obtain ⟨⟨t418, t419, t420, t421, t422, t423, t424⟩, A510, H⟩ := H
            replace H : (if (t412.length : Int) = 0 then (if a0_1 = true then ((rollcalllaw17_live.f kj3).bind fun t426 => (some t426)) else (if t424 = true then (some false) else (if (l0_0.length : Int) = a2 then ((rollcalllaw17_live.f kj3).bind fun t427 => (some t427)) else (some false)))) else (some false)) = some r := H
            have A51 := Aside0.mk A510
            clear A510
            by_cases c52 : (t412.length : Int) = 0
            · rw [if_pos c52] at H
              have c52b0 : ((t412.length : Int) == 0) = true := beq_iff_eq.mpr c52
              have c52b1 : ((t412.length : Int) != 0) = false := bne_eq_false_iff_eq.mpr c52
              clear c52
              by_cases c53 : a0_1 = true
              · subst c53
                have H1 : ((rollcalllaw17_live.f kj3).bind fun t426 => (some t426)) = some r := by rw [if_pos rfl] at H; exact H
                clear H
                have H := H1
                clear H1
                replace H := Option.bind_eq_some_iff.mp H
                obtain ⟨t426, A540, H⟩ := H
                replace H : (some t426) = some r := H
                have A54 := Aside0.mk A540
                clear A540
                obtain rfl := Option.some.inj H
                have hnb55 := NB402_403.out
                have hnc55 := NB403_402.out
                have hcz56_0 : wc.cell? ⟨gb402, 0, none⟩ = some (.slice A0_0 l0_0.length c0_0) := (blk_cell BK402.out 0).trans rfl
                have hcz56_1 : wc.cell? ⟨gb402, 1, none⟩ = some (.bool true) := (blk_cell BK402.out 1).trans rfl
                have hfz56_0 := blk_frozen BK402.out 0
                have hfz56_1 := blk_frozen BK402.out 1
                have hcz57_0 : wc.cell? ⟨gb403, 0, none⟩ = some (.string a1_0) := (blk_cell BK403.out 0).trans rfl
                have hcz57_1 : wc.cell? ⟨gb403, 1, none⟩ = some (.bool a1_1) := (blk_cell BK403.out 1).trans rfl
                have hcz57_2 : wc.cell? ⟨gb403, 2, none⟩ = some (.int .i64 a1_2) := (blk_cell BK403.out 2).trans rfl
                have hcz57_3 : wc.cell? ⟨gb403, 3, none⟩ = some (.int .i64 a1_3) := (blk_cell BK403.out 3).trans rfl
                have hcz57_4 : wc.cell? ⟨gb403, 4, none⟩ = some (.int .i64 a1_4) := (blk_cell BK403.out 4).trans rfl
                have hcz57_5 : wc.cell? ⟨gb403, 5, none⟩ = some (.string a1_5) := (blk_cell BK403.out 5).trans rfl
                have hfz57_0 := blk_frozen BK403.out 0
                have hfz57_1 := blk_frozen BK403.out 1
                have hfz57_2 := blk_frozen BK403.out 2
                have hfz57_3 := blk_frozen BK403.out 3
                have hfz57_4 := blk_frozen BK403.out 4
                have hfz57_5 := blk_frozen BK403.out 5
                go_wp2_with (first | (go_at_call 26; (with_reducible refine (queue_Push.calls (fun k_ => k_ < w.heap.size) _ _ l0_0 true a1_0 a1_1 a1_2 a1_3 a1_4 a1_5 a2 t412 true _ ?side1 A47.out).mono ?_); (case side1 => exact Kd.V_mk HC0_0.out (Kd.F_below (Kd.C_F k33_heap HR0_0.out) (hS HB.out))); rintro e w58 ⟨v413, rfl, ho0, hb⟩; have HO414 := Aside0.mk (Kd.V_lower (Kd.V_mono (ok' := fun k_ => k_ ≠ gb402 ∧ k_ ≠ gb403) ho0 (fun k_ hk_ => ⟨Or.elim hk_ (fun hs_ => fun e_ => Nat.not_le.2 hs_ (by rw [e_]; exact GW402.out)) (fun hn_ => (Kd.freshB (bS BK402.out) k_ hn_)), Or.elim hk_ (fun hs_ => fun e_ => Nat.not_le.2 hs_ (by rw [e_]; exact GW403.out)) (fun hn_ => (Kd.freshB (bS BK403.out) k_ hn_))⟩)) (below_size (hS HB.out))); replace BK402 := Aside0.mk (blk_below (bS BK402.out) hb); replace BK403 := Aside0.mk (blk_below (bS BK403.out) hb); replace HB := Aside0.mk (below_step (hS HB.out) hb); (try clear hb); (try clear hb2); (try clear hk); (try clear hi); (try clear ho0)) | ((with_reducible refine gate_dst (N := 7) rfl ?_); (try (refine gate_guard (by rfl) ?_; dsimp only)); refine box_event ?hg (N := 7) ?hd (cs := #[.slice none 0 0, .bool false]) (t := 24) ?hr ?_; (case hd => rfl); (case hg => rfl); (case hr => first | (go_simp; done) | (go_simp; rfl)); intro gb416 hg w59 hbox hb; replace HO414 := Aside0.mk (Kd.V_below (Kd.V_elderB (vS HO414.out) gb416 (Nat.le_of_eq hg.symm)) hb); have BK416 := Aside0.mk (hbox); have GW416 := Aside0.mk ((by rw [hg]; exact (below_size (hS HB.out)) : w.heap.size ≤ gb416)); have GE416 := Aside0.mk ((by rw [hg]; exact (below_size (hS HB.out)) : w.heap.size ≤ gb416)); replace HB := Aside0.mk (below_step (hS HB.out) hb); have NB402_416 := Aside0.mk ((by rw [hg]; exact Nat.ne_of_lt (blk_lt (bS BK402.out)) : gb402 ≠ gb416)); have NB416_402 := Aside0.mk ((by rw [hg]; exact Nat.ne_of_gt (blk_lt (bS BK402.out)) : gb416 ≠ gb402)); replace BK402 := Aside0.mk (blk_below (bS BK402.out) hb); have NB403_416 := Aside0.mk ((by rw [hg]; exact Nat.ne_of_lt (blk_lt (bS BK403.out)) : gb403 ≠ gb416)); have NB416_403 := Aside0.mk ((by rw [hg]; exact Nat.ne_of_gt (blk_lt (bS BK403.out)) : gb416 ≠ gb403)); replace BK403 := Aside0.mk (blk_below (bS BK403.out) hb); clear hb hbox hg; obtain ⟨Ao60, co60, eo60⟩ := Kd.V_slice HO414.out; subst eo60; have hnb61 := NB416_402.out; have hnc61 := NB402_416.out; have hnb62 := NB416_403.out; have hnc62 := NB403_416.out; have hcz63_0 : w59.cell? ⟨gb416, 0, none⟩ = some (.slice none 0 0) := (blk_cell BK416.out 0).trans rfl; have hcz63_1 : w59.cell? ⟨gb416, 1, none⟩ = some (.bool false) := (blk_cell BK416.out 1).trans rfl; have hfz63_0 := blk_frozen BK416.out 0; have hfz63_1 := blk_frozen BK416.out 1) | (go_at_call 13; (with_reducible refine (queue_May.calls kj3 _ _ t412 true a2 true _ ?side1 ?side2 A48.out).mono ?_); (case side1 => refine (Kd.V_reads' (e := 33) (base := w.heap.size) (ok := fun k_ => ((k_ ≠ gb402 ∧ k_ ≠ gb403) ∧ k_ ≠ gb416)) (n := t412.length) (c := co60) ?_).2.2; exact (by (with_reducible repeat (first | apply Kd.V_alloc | apply Kd.V_drewN | apply Kd.V_drew)); exact (Kd.V_mono (vF (b := gb416) (Kd.V_mono HO414.out (fun k_ hk => (⟨hk, hk.2⟩ : _ ∧ k_ ≠ gb416))) (fun _ hk => hk.2)) (fun _ h_ => h_.1)))); (case side2 => exact (Kd.V_reads' HO414.out).2.1); rintro e w64 ⟨rfl, hb⟩; replace HO414 := Aside0.mk (Kd.V_below (by (with_reducible repeat (first | apply Kd.V_alloc | apply Kd.V_drewN | apply Kd.V_drew)); exact (Kd.V_mono (vF (b := gb416) (Kd.V_mono HO414.out (fun k_ hk => (⟨hk, hk.2⟩ : _ ∧ k_ ≠ gb416))) (fun _ hk => hk.2)) (fun _ h_ => h_.1))) hb); replace BK402 := Aside0.mk (blk_below (bF (BK402.out) NB402_416.out) hb); replace BK403 := Aside0.mk (blk_below (bF (BK403.out) NB403_416.out) hb); replace BK416 := Aside0.mk (blk_below (g := gb416) (o := .cells #[.slice Ao60 t412.length co60, .bool true] 24 (0, 0)) (bS (blk_put (bS (blk_put (bS BK416.out) 0 _ rfl)) 1 _ rfl)) hb); replace HB := Aside0.mk (below_step (hF HB.out GE416.out) hb); (try clear hb); (try clear hb2); (try clear hk); (try clear hi); have hcz65_0 : w64.cell? ⟨gb416, 0, none⟩ = some (.slice Ao60 t412.length co60) := (blk_cell BK416.out 0).trans rfl; have hcz65_1 : w64.cell? ⟨gb416, 1, none⟩ = some (.bool true) := (blk_cell BK416.out 1).trans rfl; have hfz65_0 := blk_frozen BK416.out 0; have hfz65_1 := blk_frozen BK416.out 1; have hcz66_0 : w64.cell? ⟨gb402, 0, none⟩ = some (.slice A0_0 l0_0.length c0_0) := (blk_cell BK402.out 0).trans rfl; have hcz66_1 : w64.cell? ⟨gb402, 1, none⟩ = some (.bool true) := (blk_cell BK402.out 1).trans rfl; have hfz66_0 := blk_frozen BK402.out 0; have hfz66_1 := blk_frozen BK402.out 1; have hcz67_0 : w64.cell? ⟨gb403, 0, none⟩ = some (.string a1_0) := (blk_cell BK403.out 0).trans rfl; have hcz67_1 : w64.cell? ⟨gb403, 1, none⟩ = some (.bool a1_1) := (blk_cell BK403.out 1).trans rfl; have hcz67_2 : w64.cell? ⟨gb403, 2, none⟩ = some (.int .i64 a1_2) := (blk_cell BK403.out 2).trans rfl; have hcz67_3 : w64.cell? ⟨gb403, 3, none⟩ = some (.int .i64 a1_3) := (blk_cell BK403.out 3).trans rfl; have hcz67_4 : w64.cell? ⟨gb403, 4, none⟩ = some (.int .i64 a1_4) := (blk_cell BK403.out 4).trans rfl; have hcz67_5 : w64.cell? ⟨gb403, 5, none⟩ = some (.string a1_5) := (blk_cell BK403.out 5).trans rfl; have hfz67_0 := blk_frozen BK403.out 0; have hfz67_1 := blk_frozen BK403.out 1; have hfz67_2 := blk_frozen BK403.out 2; have hfz67_3 := blk_frozen BK403.out 3; have hfz67_4 := blk_frozen BK403.out 4; have hfz67_5 := blk_frozen BK403.out 5) | (go_at_call 17; (with_reducible refine (queue_Find.calls _ _ l0_0 true a1_0 t418 t419 t420 t421 t422 t423 t424 _ ?side1 ?side2 A51.out).mono ?_); (case side1 => repeat (first | exact (Kd.C_below HR0_0.out HB.out) | (with_reducible refine Kd.C_alloc ?_ _) | (with_reducible refine Kd.C_drewN ?_ _) | (with_reducible refine Kd.C_drew ?_))); (case side2 => exact HC0_0.out); rintro e w68 ⟨rfl, hb⟩; replace HO414 := Aside0.mk (Kd.V_below (vS HO414.out) hb); replace BK402 := Aside0.mk (blk_below (bS BK402.out) hb); replace BK403 := Aside0.mk (blk_below (bS BK403.out) hb); replace BK416 := Aside0.mk (blk_below (bS BK416.out) hb); replace HB := Aside0.mk (below_step (hS HB.out) hb); (try clear hb); (try clear hb2); (try clear hk); (try clear hi)) | ((with_reducible refine gate_dst (N := 8) rfl ?_); (try (refine gate_guard (by rfl) ?_; dsimp only)); refine box_event ?hg (N := 8) ?hd (cs := #[.string (⟨#[]⟩ : ByteArray), .bool false, .int .i64 0, .int .i64 0, .int .i64 0, .string (⟨#[]⟩ : ByteArray)]) (t := 33) ?hr ?_; (case hd => rfl); (case hg => rfl); (case hr => first | (go_simp; done) | (go_simp; rfl)); intro gb425 hg w69 hbox hb; replace HO414 := Aside0.mk (Kd.V_below (Kd.V_elderB (vS HO414.out) gb425 (Nat.le_of_eq hg.symm)) hb); have BK425 := Aside0.mk (hbox); have GW425 := Aside0.mk ((by rw [hg]; exact (below_size (hS HB.out)) : w.heap.size ≤ gb425)); have GE425 := Aside0.mk ((by rw [hg]; exact (below_size (hS HB.out)) : w.heap.size ≤ gb425)); replace HB := Aside0.mk (below_step (hS HB.out) hb); have NB402_425 := Aside0.mk ((by rw [hg]; exact Nat.ne_of_lt (blk_lt (bS BK402.out)) : gb402 ≠ gb425)); have NB425_402 := Aside0.mk ((by rw [hg]; exact Nat.ne_of_gt (blk_lt (bS BK402.out)) : gb425 ≠ gb402)); replace BK402 := Aside0.mk (blk_below (bS BK402.out) hb); have NB403_425 := Aside0.mk ((by rw [hg]; exact Nat.ne_of_lt (blk_lt (bS BK403.out)) : gb403 ≠ gb425)); have NB425_403 := Aside0.mk ((by rw [hg]; exact Nat.ne_of_gt (blk_lt (bS BK403.out)) : gb425 ≠ gb403)); replace BK403 := Aside0.mk (blk_below (bS BK403.out) hb); have NB416_425 := Aside0.mk ((by rw [hg]; exact Nat.ne_of_lt (blk_lt (bS BK416.out)) : gb416 ≠ gb425)); have NB425_416 := Aside0.mk ((by rw [hg]; exact Nat.ne_of_gt (blk_lt (bS BK416.out)) : gb425 ≠ gb416)); replace BK416 := Aside0.mk (blk_below (bS BK416.out) hb); clear hb hbox hg; have hnb70 := NB425_402.out; have hnc70 := NB402_425.out; have hnb71 := NB425_403.out; have hnc71 := NB403_425.out; have hnb72 := NB425_416.out; have hnc72 := NB416_425.out; have hcz73_0 : w69.cell? ⟨gb425, 0, none⟩ = some (.string (⟨#[]⟩ : ByteArray)) := (blk_cell BK425.out 0).trans rfl; have hcz73_1 : w69.cell? ⟨gb425, 1, none⟩ = some (.bool false) := (blk_cell BK425.out 1).trans rfl; have hcz73_2 : w69.cell? ⟨gb425, 2, none⟩ = some (.int .i64 0) := (blk_cell BK425.out 2).trans rfl; have hcz73_3 : w69.cell? ⟨gb425, 3, none⟩ = some (.int .i64 0) := (blk_cell BK425.out 3).trans rfl; have hcz73_4 : w69.cell? ⟨gb425, 4, none⟩ = some (.int .i64 0) := (blk_cell BK425.out 4).trans rfl; have hcz73_5 : w69.cell? ⟨gb425, 5, none⟩ = some (.string (⟨#[]⟩ : ByteArray)) := (blk_cell BK425.out 5).trans rfl; have hfz73_0 := blk_frozen BK425.out 0; have hfz73_1 := blk_frozen BK425.out 1; have hfz73_2 := blk_frozen BK425.out 2; have hfz73_3 := blk_frozen BK425.out 3; have hfz73_4 := blk_frozen BK425.out 4; have hfz73_5 := blk_frozen BK425.out 5; have hcz74_0 : w69.cell? ⟨gb416, 0, none⟩ = some (.slice Ao60 t412.length co60) := (blk_cell BK416.out 0).trans rfl; have hcz74_1 : w69.cell? ⟨gb416, 1, none⟩ = some (.bool true) := (blk_cell BK416.out 1).trans rfl; have hfz74_0 := blk_frozen BK416.out 0; have hfz74_1 := blk_frozen BK416.out 1; have hcz75_0 : w69.cell? ⟨gb402, 0, none⟩ = some (.slice A0_0 l0_0.length c0_0) := (blk_cell BK402.out 0).trans rfl; have hcz75_1 : w69.cell? ⟨gb402, 1, none⟩ = some (.bool true) := (blk_cell BK402.out 1).trans rfl; have hfz75_0 := blk_frozen BK402.out 0; have hfz75_1 := blk_frozen BK402.out 1) | (go_at_call 10; (with_reducible refine (rollcalllaw17_live.calls kj3  t426 _ A54.out).mono ?_); rintro e w76 ⟨rfl, hb⟩; replace HO414 := Aside0.mk (Kd.V_below (by (with_reducible repeat (first | apply Kd.V_alloc | apply Kd.V_drewN | apply Kd.V_drew)); exact (Kd.V_mono (vF (b := gb425) (Kd.V_mono HO414.out (fun k_ hk => (⟨hk, hk.2⟩ : _ ∧ k_ ≠ gb425))) (fun _ hk => hk.2)) (fun _ h_ => h_.1))) hb); replace BK402 := Aside0.mk (blk_below (bF (BK402.out) NB402_425.out) hb); replace BK403 := Aside0.mk (blk_below (bF (BK403.out) NB403_425.out) hb); replace BK416 := Aside0.mk (blk_below (bF (BK416.out) NB416_425.out) hb); replace BK425 := Aside0.mk (blk_below (g := gb425) (o := .cells #[.string t418, .bool t419, .int .i64 t420, .int .i64 t421, .int .i64 t422, .string t423] 33 (0, 0)) (bS (blk_put (bS (blk_put (bS (blk_put (bS (blk_put (bS (blk_put (bS (blk_put (bS BK425.out) 0 _ rfl)) 1 _ rfl)) 2 _ rfl)) 3 _ rfl)) 4 _ rfl)) 5 _ rfl)) hb); replace HB := Aside0.mk (below_step (hF HB.out GE425.out) hb); (try clear hb); (try clear hb2); (try clear hk); (try clear hi)))
                repeat (go_quiet (first | (go_at_call 26; (with_reducible refine (queue_Push.calls (fun k_ => k_ < w.heap.size) _ _ l0_0 true a1_0 a1_1 a1_2 a1_3 a1_4 a1_5 a2 t412 true _ ?side1 A47.out).mono ?_); (case side1 => exact Kd.V_mk HC0_0.out (Kd.F_below (Kd.C_F k33_heap HR0_0.out) (hS HB.out))); rintro e w58 ⟨v413, rfl, ho0, hb⟩; have HO414 := Aside0.mk (Kd.V_lower (Kd.V_mono (ok' := fun k_ => k_ ≠ gb402 ∧ k_ ≠ gb403) ho0 (fun k_ hk_ => ⟨Or.elim hk_ (fun hs_ => fun e_ => Nat.not_le.2 hs_ (by rw [e_]; exact GW402.out)) (fun hn_ => (Kd.freshB (bS BK402.out) k_ hn_)), Or.elim hk_ (fun hs_ => fun e_ => Nat.not_le.2 hs_ (by rw [e_]; exact GW403.out)) (fun hn_ => (Kd.freshB (bS BK403.out) k_ hn_))⟩)) (below_size (hS HB.out))); replace BK402 := Aside0.mk (blk_below (bS BK402.out) hb); replace BK403 := Aside0.mk (blk_below (bS BK403.out) hb); replace HB := Aside0.mk (below_step (hS HB.out) hb); (try clear hb); (try clear hb2); (try clear hk); (try clear hi); (try clear ho0)) | ((with_reducible refine gate_dst (N := 7) rfl ?_); (try (refine gate_guard (by rfl) ?_; dsimp only)); refine box_event ?hg (N := 7) ?hd (cs := #[.slice none 0 0, .bool false]) (t := 24) ?hr ?_; (case hd => rfl); (case hg => rfl); (case hr => first | (go_simp; done) | (go_simp; rfl)); intro gb416 hg w59 hbox hb; replace HO414 := Aside0.mk (Kd.V_below (Kd.V_elderB (vS HO414.out) gb416 (Nat.le_of_eq hg.symm)) hb); have BK416 := Aside0.mk (hbox); have GW416 := Aside0.mk ((by rw [hg]; exact (below_size (hS HB.out)) : w.heap.size ≤ gb416)); have GE416 := Aside0.mk ((by rw [hg]; exact (below_size (hS HB.out)) : w.heap.size ≤ gb416)); replace HB := Aside0.mk (below_step (hS HB.out) hb); have NB402_416 := Aside0.mk ((by rw [hg]; exact Nat.ne_of_lt (blk_lt (bS BK402.out)) : gb402 ≠ gb416)); have NB416_402 := Aside0.mk ((by rw [hg]; exact Nat.ne_of_gt (blk_lt (bS BK402.out)) : gb416 ≠ gb402)); replace BK402 := Aside0.mk (blk_below (bS BK402.out) hb); have NB403_416 := Aside0.mk ((by rw [hg]; exact Nat.ne_of_lt (blk_lt (bS BK403.out)) : gb403 ≠ gb416)); have NB416_403 := Aside0.mk ((by rw [hg]; exact Nat.ne_of_gt (blk_lt (bS BK403.out)) : gb416 ≠ gb403)); replace BK403 := Aside0.mk (blk_below (bS BK403.out) hb); clear hb hbox hg; obtain ⟨Ao60, co60, eo60⟩ := Kd.V_slice HO414.out; subst eo60; have hnb61 := NB416_402.out; have hnc61 := NB402_416.out; have hnb62 := NB416_403.out; have hnc62 := NB403_416.out; have hcz63_0 : w59.cell? ⟨gb416, 0, none⟩ = some (.slice none 0 0) := (blk_cell BK416.out 0).trans rfl; have hcz63_1 : w59.cell? ⟨gb416, 1, none⟩ = some (.bool false) := (blk_cell BK416.out 1).trans rfl; have hfz63_0 := blk_frozen BK416.out 0; have hfz63_1 := blk_frozen BK416.out 1) | (go_at_call 13; (with_reducible refine (queue_May.calls kj3 _ _ t412 true a2 true _ ?side1 ?side2 A48.out).mono ?_); (case side1 => refine (Kd.V_reads' (e := 33) (base := w.heap.size) (ok := fun k_ => ((k_ ≠ gb402 ∧ k_ ≠ gb403) ∧ k_ ≠ gb416)) (n := t412.length) (c := co60) ?_).2.2; exact (by (with_reducible repeat (first | apply Kd.V_alloc | apply Kd.V_drewN | apply Kd.V_drew)); exact (Kd.V_mono (vF (b := gb416) (Kd.V_mono HO414.out (fun k_ hk => (⟨hk, hk.2⟩ : _ ∧ k_ ≠ gb416))) (fun _ hk => hk.2)) (fun _ h_ => h_.1)))); (case side2 => exact (Kd.V_reads' HO414.out).2.1); rintro e w64 ⟨rfl, hb⟩; replace HO414 := Aside0.mk (Kd.V_below (by (with_reducible repeat (first | apply Kd.V_alloc | apply Kd.V_drewN | apply Kd.V_drew)); exact (Kd.V_mono (vF (b := gb416) (Kd.V_mono HO414.out (fun k_ hk => (⟨hk, hk.2⟩ : _ ∧ k_ ≠ gb416))) (fun _ hk => hk.2)) (fun _ h_ => h_.1))) hb); replace BK402 := Aside0.mk (blk_below (bF (BK402.out) NB402_416.out) hb); replace BK403 := Aside0.mk (blk_below (bF (BK403.out) NB403_416.out) hb); replace BK416 := Aside0.mk (blk_below (g := gb416) (o := .cells #[.slice Ao60 t412.length co60, .bool true] 24 (0, 0)) (bS (blk_put (bS (blk_put (bS BK416.out) 0 _ rfl)) 1 _ rfl)) hb); replace HB := Aside0.mk (below_step (hF HB.out GE416.out) hb); (try clear hb); (try clear hb2); (try clear hk); (try clear hi); have hcz65_0 : w64.cell? ⟨gb416, 0, none⟩ = some (.slice Ao60 t412.length co60) := (blk_cell BK416.out 0).trans rfl; have hcz65_1 : w64.cell? ⟨gb416, 1, none⟩ = some (.bool true) := (blk_cell BK416.out 1).trans rfl; have hfz65_0 := blk_frozen BK416.out 0; have hfz65_1 := blk_frozen BK416.out 1; have hcz66_0 : w64.cell? ⟨gb402, 0, none⟩ = some (.slice A0_0 l0_0.length c0_0) := (blk_cell BK402.out 0).trans rfl; have hcz66_1 : w64.cell? ⟨gb402, 1, none⟩ = some (.bool true) := (blk_cell BK402.out 1).trans rfl; have hfz66_0 := blk_frozen BK402.out 0; have hfz66_1 := blk_frozen BK402.out 1; have hcz67_0 : w64.cell? ⟨gb403, 0, none⟩ = some (.string a1_0) := (blk_cell BK403.out 0).trans rfl; have hcz67_1 : w64.cell? ⟨gb403, 1, none⟩ = some (.bool a1_1) := (blk_cell BK403.out 1).trans rfl; have hcz67_2 : w64.cell? ⟨gb403, 2, none⟩ = some (.int .i64 a1_2) := (blk_cell BK403.out 2).trans rfl; have hcz67_3 : w64.cell? ⟨gb403, 3, none⟩ = some (.int .i64 a1_3) := (blk_cell BK403.out 3).trans rfl; have hcz67_4 : w64.cell? ⟨gb403, 4, none⟩ = some (.int .i64 a1_4) := (blk_cell BK403.out 4).trans rfl; have hcz67_5 : w64.cell? ⟨gb403, 5, none⟩ = some (.string a1_5) := (blk_cell BK403.out 5).trans rfl; have hfz67_0 := blk_frozen BK403.out 0; have hfz67_1 := blk_frozen BK403.out 1; have hfz67_2 := blk_frozen BK403.out 2; have hfz67_3 := blk_frozen BK403.out 3; have hfz67_4 := blk_frozen BK403.out 4; have hfz67_5 := blk_frozen BK403.out 5) | (go_at_call 17; (with_reducible refine (queue_Find.calls _ _ l0_0 true a1_0 t418 t419 t420 t421 t422 t423 t424 _ ?side1 ?side2 A51.out).mono ?_); (case side1 => repeat (first | exact (Kd.C_below HR0_0.out HB.out) | (with_reducible refine Kd.C_alloc ?_ _) | (with_reducible refine Kd.C_drewN ?_ _) | (with_reducible refine Kd.C_drew ?_))); (case side2 => exact HC0_0.out); rintro e w68 ⟨rfl, hb⟩; replace HO414 := Aside0.mk (Kd.V_below (vS HO414.out) hb); replace BK402 := Aside0.mk (blk_below (bS BK402.out) hb); replace BK403 := Aside0.mk (blk_below (bS BK403.out) hb); replace BK416 := Aside0.mk (blk_below (bS BK416.out) hb); replace HB := Aside0.mk (below_step (hS HB.out) hb); (try clear hb); (try clear hb2); (try clear hk); (try clear hi)) | ((with_reducible refine gate_dst (N := 8) rfl ?_); (try (refine gate_guard (by rfl) ?_; dsimp only)); refine box_event ?hg (N := 8) ?hd (cs := #[.string (⟨#[]⟩ : ByteArray), .bool false, .int .i64 0, .int .i64 0, .int .i64 0, .string (⟨#[]⟩ : ByteArray)]) (t := 33) ?hr ?_; (case hd => rfl); (case hg => rfl); (case hr => first | (go_simp; done) | (go_simp; rfl)); intro gb425 hg w69 hbox hb; replace HO414 := Aside0.mk (Kd.V_below (Kd.V_elderB (vS HO414.out) gb425 (Nat.le_of_eq hg.symm)) hb); have BK425 := Aside0.mk (hbox); have GW425 := Aside0.mk ((by rw [hg]; exact (below_size (hS HB.out)) : w.heap.size ≤ gb425)); have GE425 := Aside0.mk ((by rw [hg]; exact (below_size (hS HB.out)) : w.heap.size ≤ gb425)); replace HB := Aside0.mk (below_step (hS HB.out) hb); have NB402_425 := Aside0.mk ((by rw [hg]; exact Nat.ne_of_lt (blk_lt (bS BK402.out)) : gb402 ≠ gb425)); have NB425_402 := Aside0.mk ((by rw [hg]; exact Nat.ne_of_gt (blk_lt (bS BK402.out)) : gb425 ≠ gb402)); replace BK402 := Aside0.mk (blk_below (bS BK402.out) hb); have NB403_425 := Aside0.mk ((by rw [hg]; exact Nat.ne_of_lt (blk_lt (bS BK403.out)) : gb403 ≠ gb425)); have NB425_403 := Aside0.mk ((by rw [hg]; exact Nat.ne_of_gt (blk_lt (bS BK403.out)) : gb425 ≠ gb403)); replace BK403 := Aside0.mk (blk_below (bS BK403.out) hb); have NB416_425 := Aside0.mk ((by rw [hg]; exact Nat.ne_of_lt (blk_lt (bS BK416.out)) : gb416 ≠ gb425)); have NB425_416 := Aside0.mk ((by rw [hg]; exact Nat.ne_of_gt (blk_lt (bS BK416.out)) : gb425 ≠ gb416)); replace BK416 := Aside0.mk (blk_below (bS BK416.out) hb); clear hb hbox hg; have hnb70 := NB425_402.out; have hnc70 := NB402_425.out; have hnb71 := NB425_403.out; have hnc71 := NB403_425.out; have hnb72 := NB425_416.out; have hnc72 := NB416_425.out; have hcz73_0 : w69.cell? ⟨gb425, 0, none⟩ = some (.string (⟨#[]⟩ : ByteArray)) := (blk_cell BK425.out 0).trans rfl; have hcz73_1 : w69.cell? ⟨gb425, 1, none⟩ = some (.bool false) := (blk_cell BK425.out 1).trans rfl; have hcz73_2 : w69.cell? ⟨gb425, 2, none⟩ = some (.int .i64 0) := (blk_cell BK425.out 2).trans rfl; have hcz73_3 : w69.cell? ⟨gb425, 3, none⟩ = some (.int .i64 0) := (blk_cell BK425.out 3).trans rfl; have hcz73_4 : w69.cell? ⟨gb425, 4, none⟩ = some (.int .i64 0) := (blk_cell BK425.out 4).trans rfl; have hcz73_5 : w69.cell? ⟨gb425, 5, none⟩ = some (.string (⟨#[]⟩ : ByteArray)) := (blk_cell BK425.out 5).trans rfl; have hfz73_0 := blk_frozen BK425.out 0; have hfz73_1 := blk_frozen BK425.out 1; have hfz73_2 := blk_frozen BK425.out 2; have hfz73_3 := blk_frozen BK425.out 3; have hfz73_4 := blk_frozen BK425.out 4; have hfz73_5 := blk_frozen BK425.out 5; have hcz74_0 : w69.cell? ⟨gb416, 0, none⟩ = some (.slice Ao60 t412.length co60) := (blk_cell BK416.out 0).trans rfl; have hcz74_1 : w69.cell? ⟨gb416, 1, none⟩ = some (.bool true) := (blk_cell BK416.out 1).trans rfl; have hfz74_0 := blk_frozen BK416.out 0; have hfz74_1 := blk_frozen BK416.out 1; have hcz75_0 : w69.cell? ⟨gb402, 0, none⟩ = some (.slice A0_0 l0_0.length c0_0) := (blk_cell BK402.out 0).trans rfl; have hcz75_1 : w69.cell? ⟨gb402, 1, none⟩ = some (.bool true) := (blk_cell BK402.out 1).trans rfl; have hfz75_0 := blk_frozen BK402.out 0; have hfz75_1 := blk_frozen BK402.out 1) | (go_at_call 10; (with_reducible refine (rollcalllaw17_live.calls kj3  t426 _ A54.out).mono ?_); rintro e w76 ⟨rfl, hb⟩; replace HO414 := Aside0.mk (Kd.V_below (by (with_reducible repeat (first | apply Kd.V_alloc | apply Kd.V_drewN | apply Kd.V_drew)); exact (Kd.V_mono (vF (b := gb425) (Kd.V_mono HO414.out (fun k_ hk => (⟨hk, hk.2⟩ : _ ∧ k_ ≠ gb425))) (fun _ hk => hk.2)) (fun _ h_ => h_.1))) hb); replace BK402 := Aside0.mk (blk_below (bF (BK402.out) NB402_425.out) hb); replace BK403 := Aside0.mk (blk_below (bF (BK403.out) NB403_425.out) hb); replace BK416 := Aside0.mk (blk_below (bF (BK416.out) NB416_425.out) hb); replace BK425 := Aside0.mk (blk_below (g := gb425) (o := .cells #[.string t418, .bool t419, .int .i64 t420, .int .i64 t421, .int .i64 t422, .string t423] 33 (0, 0)) (bS (blk_put (bS (blk_put (bS (blk_put (bS (blk_put (bS (blk_put (bS (blk_put (bS BK425.out) 0 _ rfl)) 1 _ rfl)) 2 _ rfl)) 3 _ rfl)) 4 _ rfl)) 5 _ rfl)) hb); replace HB := Aside0.mk (below_step (hF HB.out GE425.out) hb); (try clear hb); (try clear hb2); (try clear hk); (try clear hi))); try go_wp2_with (first | (go_at_call 26; (with_reducible refine (queue_Push.calls (fun k_ => k_ < w.heap.size) _ _ l0_0 true a1_0 a1_1 a1_2 a1_3 a1_4 a1_5 a2 t412 true _ ?side1 A47.out).mono ?_); (case side1 => exact Kd.V_mk HC0_0.out (Kd.F_below (Kd.C_F k33_heap HR0_0.out) (hS HB.out))); rintro e w58 ⟨v413, rfl, ho0, hb⟩; have HO414 := Aside0.mk (Kd.V_lower (Kd.V_mono (ok' := fun k_ => k_ ≠ gb402 ∧ k_ ≠ gb403) ho0 (fun k_ hk_ => ⟨Or.elim hk_ (fun hs_ => fun e_ => Nat.not_le.2 hs_ (by rw [e_]; exact GW402.out)) (fun hn_ => (Kd.freshB (bS BK402.out) k_ hn_)), Or.elim hk_ (fun hs_ => fun e_ => Nat.not_le.2 hs_ (by rw [e_]; exact GW403.out)) (fun hn_ => (Kd.freshB (bS BK403.out) k_ hn_))⟩)) (below_size (hS HB.out))); replace BK402 := Aside0.mk (blk_below (bS BK402.out) hb); replace BK403 := Aside0.mk (blk_below (bS BK403.out) hb); replace HB := Aside0.mk (below_step (hS HB.out) hb); (try clear hb); (try clear hb2); (try clear hk); (try clear hi); (try clear ho0)) | ((with_reducible refine gate_dst (N := 7) rfl ?_); (try (refine gate_guard (by rfl) ?_; dsimp only)); refine box_event ?hg (N := 7) ?hd (cs := #[.slice none 0 0, .bool false]) (t := 24) ?hr ?_; (case hd => rfl); (case hg => rfl); (case hr => first | (go_simp; done) | (go_simp; rfl)); intro gb416 hg w59 hbox hb; replace HO414 := Aside0.mk (Kd.V_below (Kd.V_elderB (vS HO414.out) gb416 (Nat.le_of_eq hg.symm)) hb); have BK416 := Aside0.mk (hbox); have GW416 := Aside0.mk ((by rw [hg]; exact (below_size (hS HB.out)) : w.heap.size ≤ gb416)); have GE416 := Aside0.mk ((by rw [hg]; exact (below_size (hS HB.out)) : w.heap.size ≤ gb416)); replace HB := Aside0.mk (below_step (hS HB.out) hb); have NB402_416 := Aside0.mk ((by rw [hg]; exact Nat.ne_of_lt (blk_lt (bS BK402.out)) : gb402 ≠ gb416)); have NB416_402 := Aside0.mk ((by rw [hg]; exact Nat.ne_of_gt (blk_lt (bS BK402.out)) : gb416 ≠ gb402)); replace BK402 := Aside0.mk (blk_below (bS BK402.out) hb); have NB403_416 := Aside0.mk ((by rw [hg]; exact Nat.ne_of_lt (blk_lt (bS BK403.out)) : gb403 ≠ gb416)); have NB416_403 := Aside0.mk ((by rw [hg]; exact Nat.ne_of_gt (blk_lt (bS BK403.out)) : gb416 ≠ gb403)); replace BK403 := Aside0.mk (blk_below (bS BK403.out) hb); clear hb hbox hg; obtain ⟨Ao60, co60, eo60⟩ := Kd.V_slice HO414.out; subst eo60; have hnb61 := NB416_402.out; have hnc61 := NB402_416.out; have hnb62 := NB416_403.out; have hnc62 := NB403_416.out; have hcz63_0 : w59.cell? ⟨gb416, 0, none⟩ = some (.slice none 0 0) := (blk_cell BK416.out 0).trans rfl; have hcz63_1 : w59.cell? ⟨gb416, 1, none⟩ = some (.bool false) := (blk_cell BK416.out 1).trans rfl; have hfz63_0 := blk_frozen BK416.out 0; have hfz63_1 := blk_frozen BK416.out 1) | (go_at_call 13; (with_reducible refine (queue_May.calls kj3 _ _ t412 true a2 true _ ?side1 ?side2 A48.out).mono ?_); (case side1 => refine (Kd.V_reads' (e := 33) (base := w.heap.size) (ok := fun k_ => ((k_ ≠ gb402 ∧ k_ ≠ gb403) ∧ k_ ≠ gb416)) (n := t412.length) (c := co60) ?_).2.2; exact (by (with_reducible repeat (first | apply Kd.V_alloc | apply Kd.V_drewN | apply Kd.V_drew)); exact (Kd.V_mono (vF (b := gb416) (Kd.V_mono HO414.out (fun k_ hk => (⟨hk, hk.2⟩ : _ ∧ k_ ≠ gb416))) (fun _ hk => hk.2)) (fun _ h_ => h_.1)))); (case side2 => exact (Kd.V_reads' HO414.out).2.1); rintro e w64 ⟨rfl, hb⟩; replace HO414 := Aside0.mk (Kd.V_below (by (with_reducible repeat (first | apply Kd.V_alloc | apply Kd.V_drewN | apply Kd.V_drew)); exact (Kd.V_mono (vF (b := gb416) (Kd.V_mono HO414.out (fun k_ hk => (⟨hk, hk.2⟩ : _ ∧ k_ ≠ gb416))) (fun _ hk => hk.2)) (fun _ h_ => h_.1))) hb); replace BK402 := Aside0.mk (blk_below (bF (BK402.out) NB402_416.out) hb); replace BK403 := Aside0.mk (blk_below (bF (BK403.out) NB403_416.out) hb); replace BK416 := Aside0.mk (blk_below (g := gb416) (o := .cells #[.slice Ao60 t412.length co60, .bool true] 24 (0, 0)) (bS (blk_put (bS (blk_put (bS BK416.out) 0 _ rfl)) 1 _ rfl)) hb); replace HB := Aside0.mk (below_step (hF HB.out GE416.out) hb); (try clear hb); (try clear hb2); (try clear hk); (try clear hi); have hcz65_0 : w64.cell? ⟨gb416, 0, none⟩ = some (.slice Ao60 t412.length co60) := (blk_cell BK416.out 0).trans rfl; have hcz65_1 : w64.cell? ⟨gb416, 1, none⟩ = some (.bool true) := (blk_cell BK416.out 1).trans rfl; have hfz65_0 := blk_frozen BK416.out 0; have hfz65_1 := blk_frozen BK416.out 1; have hcz66_0 : w64.cell? ⟨gb402, 0, none⟩ = some (.slice A0_0 l0_0.length c0_0) := (blk_cell BK402.out 0).trans rfl; have hcz66_1 : w64.cell? ⟨gb402, 1, none⟩ = some (.bool true) := (blk_cell BK402.out 1).trans rfl; have hfz66_0 := blk_frozen BK402.out 0; have hfz66_1 := blk_frozen BK402.out 1; have hcz67_0 : w64.cell? ⟨gb403, 0, none⟩ = some (.string a1_0) := (blk_cell BK403.out 0).trans rfl; have hcz67_1 : w64.cell? ⟨gb403, 1, none⟩ = some (.bool a1_1) := (blk_cell BK403.out 1).trans rfl; have hcz67_2 : w64.cell? ⟨gb403, 2, none⟩ = some (.int .i64 a1_2) := (blk_cell BK403.out 2).trans rfl; have hcz67_3 : w64.cell? ⟨gb403, 3, none⟩ = some (.int .i64 a1_3) := (blk_cell BK403.out 3).trans rfl; have hcz67_4 : w64.cell? ⟨gb403, 4, none⟩ = some (.int .i64 a1_4) := (blk_cell BK403.out 4).trans rfl; have hcz67_5 : w64.cell? ⟨gb403, 5, none⟩ = some (.string a1_5) := (blk_cell BK403.out 5).trans rfl; have hfz67_0 := blk_frozen BK403.out 0; have hfz67_1 := blk_frozen BK403.out 1; have hfz67_2 := blk_frozen BK403.out 2; have hfz67_3 := blk_frozen BK403.out 3; have hfz67_4 := blk_frozen BK403.out 4; have hfz67_5 := blk_frozen BK403.out 5) | (go_at_call 17; (with_reducible refine (queue_Find.calls _ _ l0_0 true a1_0 t418 t419 t420 t421 t422 t423 t424 _ ?side1 ?side2 A51.out).mono ?_); (case side1 => repeat (first | exact (Kd.C_below HR0_0.out HB.out) | (with_reducible refine Kd.C_alloc ?_ _) | (with_reducible refine Kd.C_drewN ?_ _) | (with_reducible refine Kd.C_drew ?_))); (case side2 => exact HC0_0.out); rintro e w68 ⟨rfl, hb⟩; replace HO414 := Aside0.mk (Kd.V_below (vS HO414.out) hb); replace BK402 := Aside0.mk (blk_below (bS BK402.out) hb); replace BK403 := Aside0.mk (blk_below (bS BK403.out) hb); replace BK416 := Aside0.mk (blk_below (bS BK416.out) hb); replace HB := Aside0.mk (below_step (hS HB.out) hb); (try clear hb); (try clear hb2); (try clear hk); (try clear hi)) | ((with_reducible refine gate_dst (N := 8) rfl ?_); (try (refine gate_guard (by rfl) ?_; dsimp only)); refine box_event ?hg (N := 8) ?hd (cs := #[.string (⟨#[]⟩ : ByteArray), .bool false, .int .i64 0, .int .i64 0, .int .i64 0, .string (⟨#[]⟩ : ByteArray)]) (t := 33) ?hr ?_; (case hd => rfl); (case hg => rfl); (case hr => first | (go_simp; done) | (go_simp; rfl)); intro gb425 hg w69 hbox hb; replace HO414 := Aside0.mk (Kd.V_below (Kd.V_elderB (vS HO414.out) gb425 (Nat.le_of_eq hg.symm)) hb); have BK425 := Aside0.mk (hbox); have GW425 := Aside0.mk ((by rw [hg]; exact (below_size (hS HB.out)) : w.heap.size ≤ gb425)); have GE425 := Aside0.mk ((by rw [hg]; exact (below_size (hS HB.out)) : w.heap.size ≤ gb425)); replace HB := Aside0.mk (below_step (hS HB.out) hb); have NB402_425 := Aside0.mk ((by rw [hg]; exact Nat.ne_of_lt (blk_lt (bS BK402.out)) : gb402 ≠ gb425)); have NB425_402 := Aside0.mk ((by rw [hg]; exact Nat.ne_of_gt (blk_lt (bS BK402.out)) : gb425 ≠ gb402)); replace BK402 := Aside0.mk (blk_below (bS BK402.out) hb); have NB403_425 := Aside0.mk ((by rw [hg]; exact Nat.ne_of_lt (blk_lt (bS BK403.out)) : gb403 ≠ gb425)); have NB425_403 := Aside0.mk ((by rw [hg]; exact Nat.ne_of_gt (blk_lt (bS BK403.out)) : gb425 ≠ gb403)); replace BK403 := Aside0.mk (blk_below (bS BK403.out) hb); have NB416_425 := Aside0.mk ((by rw [hg]; exact Nat.ne_of_lt (blk_lt (bS BK416.out)) : gb416 ≠ gb425)); have NB425_416 := Aside0.mk ((by rw [hg]; exact Nat.ne_of_gt (blk_lt (bS BK416.out)) : gb425 ≠ gb416)); replace BK416 := Aside0.mk (blk_below (bS BK416.out) hb); clear hb hbox hg; have hnb70 := NB425_402.out; have hnc70 := NB402_425.out; have hnb71 := NB425_403.out; have hnc71 := NB403_425.out; have hnb72 := NB425_416.out; have hnc72 := NB416_425.out; have hcz73_0 : w69.cell? ⟨gb425, 0, none⟩ = some (.string (⟨#[]⟩ : ByteArray)) := (blk_cell BK425.out 0).trans rfl; have hcz73_1 : w69.cell? ⟨gb425, 1, none⟩ = some (.bool false) := (blk_cell BK425.out 1).trans rfl; have hcz73_2 : w69.cell? ⟨gb425, 2, none⟩ = some (.int .i64 0) := (blk_cell BK425.out 2).trans rfl; have hcz73_3 : w69.cell? ⟨gb425, 3, none⟩ = some (.int .i64 0) := (blk_cell BK425.out 3).trans rfl; have hcz73_4 : w69.cell? ⟨gb425, 4, none⟩ = some (.int .i64 0) := (blk_cell BK425.out 4).trans rfl; have hcz73_5 : w69.cell? ⟨gb425, 5, none⟩ = some (.string (⟨#[]⟩ : ByteArray)) := (blk_cell BK425.out 5).trans rfl; have hfz73_0 := blk_frozen BK425.out 0; have hfz73_1 := blk_frozen BK425.out 1; have hfz73_2 := blk_frozen BK425.out 2; have hfz73_3 := blk_frozen BK425.out 3; have hfz73_4 := blk_frozen BK425.out 4; have hfz73_5 := blk_frozen BK425.out 5; have hcz74_0 : w69.cell? ⟨gb416, 0, none⟩ = some (.slice Ao60 t412.length co60) := (blk_cell BK416.out 0).trans rfl; have hcz74_1 : w69.cell? ⟨gb416, 1, none⟩ = some (.bool true) := (blk_cell BK416.out 1).trans rfl; have hfz74_0 := blk_frozen BK416.out 0; have hfz74_1 := blk_frozen BK416.out 1; have hcz75_0 : w69.cell? ⟨gb402, 0, none⟩ = some (.slice A0_0 l0_0.length c0_0) := (blk_cell BK402.out 0).trans rfl; have hcz75_1 : w69.cell? ⟨gb402, 1, none⟩ = some (.bool true) := (blk_cell BK402.out 1).trans rfl; have hfz75_0 := blk_frozen BK402.out 0; have hfz75_1 := blk_frozen BK402.out 1) | (go_at_call 10; (with_reducible refine (rollcalllaw17_live.calls kj3  t426 _ A54.out).mono ?_); rintro e w76 ⟨rfl, hb⟩; replace HO414 := Aside0.mk (Kd.V_below (by (with_reducible repeat (first | apply Kd.V_alloc | apply Kd.V_drewN | apply Kd.V_drew)); exact (Kd.V_mono (vF (b := gb425) (Kd.V_mono HO414.out (fun k_ hk => (⟨hk, hk.2⟩ : _ ∧ k_ ≠ gb425))) (fun _ hk => hk.2)) (fun _ h_ => h_.1))) hb); replace BK402 := Aside0.mk (blk_below (bF (BK402.out) NB402_425.out) hb); replace BK403 := Aside0.mk (blk_below (bF (BK403.out) NB403_425.out) hb); replace BK416 := Aside0.mk (blk_below (bF (BK416.out) NB416_425.out) hb); replace BK425 := Aside0.mk (blk_below (g := gb425) (o := .cells #[.string t418, .bool t419, .int .i64 t420, .int .i64 t421, .int .i64 t422, .string t423] 33 (0, 0)) (bS (blk_put (bS (blk_put (bS (blk_put (bS (blk_put (bS (blk_put (bS (blk_put (bS BK425.out) 0 _ rfl)) 1 _ rfl)) 2 _ rfl)) 3 _ rfl)) 4 _ rfl)) 5 _ rfl)) hb); replace HB := Aside0.mk (below_step (hF HB.out GE425.out) hb); (try clear hb); (try clear hb2); (try clear hk); (try clear hi))))
                go_ret
                exact ⟨by first | rfl | (simp [errW_none, errW_some] <;> rfl) | (simp [*, errW_none, errW_some] <;> rfl), by repeat (first | (with_reducible first | exact HB.out | apply below_alloc | apply pw_below_drewN | apply below_drew1 | refine below_set ?_ GE402.out | refine below_set ?_ GE403.out | refine below_set ?_ GE416.out | refine below_set ?_ GE425.out) | exact HB.out)⟩
              · replace c53 := Bool.eq_false_iff.mpr c53
                subst c53
                have H1 : (if t424 = true then (some false) else (if (l0_0.length : Int) = a2 then ((rollcalllaw17_live.f kj3).bind fun t427 => (some t427)) else (some false))) = some r := by rw [if_neg (show ¬ (false = true) by decide)] at H; exact H
                clear H
                have H := H1
                clear H1
                by_cases c77 : t424 = true
                · subst c77
                  have H1 : (some false) = some r := by rw [if_pos rfl] at H; exact H
                  clear H
                  have H := H1
                  clear H1
                  exact absurd ((Option.some.inj H).trans HT.out) (by simp)
                · replace c77 := Bool.eq_false_iff.mpr c77
                  subst c77
                  have H1 : (if (l0_0.length : Int) = a2 then ((rollcalllaw17_live.f kj3).bind fun t427 => (some t427)) else (some false)) = some r := by rw [if_neg (show ¬ (false = true) by decide)] at H; exact H
                  clear H
                  have H := H1
                  clear H1
                  by_cases c78 : (l0_0.length : Int) = a2
                  · rw [if_pos c78] at H
                    have c78b0 : ((l0_0.length : Int) == a2) = true := beq_iff_eq.mpr c78
                    have c78b1 : ((l0_0.length : Int) != a2) = false := bne_eq_false_iff_eq.mpr c78
                    clear c78
                    replace H := Option.bind_eq_some_iff.mp H
                    obtain ⟨t427, A790, H⟩ := H
                    replace H : (some t427) = some r := H
                    have A79 := Aside0.mk A790
                    clear A790
                    obtain rfl := Option.some.inj H
                    have hnb80 := NB402_403.out
                    have hnc80 := NB403_402.out
                    have hcz81_0 : wc.cell? ⟨gb402, 0, none⟩ = some (.slice A0_0 l0_0.length c0_0) := (blk_cell BK402.out 0).trans rfl
                    have hcz81_1 : wc.cell? ⟨gb402, 1, none⟩ = some (.bool false) := (blk_cell BK402.out 1).trans rfl
                    have hfz81_0 := blk_frozen BK402.out 0
                    have hfz81_1 := blk_frozen BK402.out 1
                    have hcz82_0 : wc.cell? ⟨gb403, 0, none⟩ = some (.string a1_0) := (blk_cell BK403.out 0).trans rfl
                    have hcz82_1 : wc.cell? ⟨gb403, 1, none⟩ = some (.bool a1_1) := (blk_cell BK403.out 1).trans rfl
                    have hcz82_2 : wc.cell? ⟨gb403, 2, none⟩ = some (.int .i64 a1_2) := (blk_cell BK403.out 2).trans rfl
                    have hcz82_3 : wc.cell? ⟨gb403, 3, none⟩ = some (.int .i64 a1_3) := (blk_cell BK403.out 3).trans rfl
                    have hcz82_4 : wc.cell? ⟨gb403, 4, none⟩ = some (.int .i64 a1_4) := (blk_cell BK403.out 4).trans rfl
                    have hcz82_5 : wc.cell? ⟨gb403, 5, none⟩ = some (.string a1_5) := (blk_cell BK403.out 5).trans rfl
                    have hfz82_0 := blk_frozen BK403.out 0
                    have hfz82_1 := blk_frozen BK403.out 1
                    have hfz82_2 := blk_frozen BK403.out 2
                    have hfz82_3 := blk_frozen BK403.out 3
                    have hfz82_4 := blk_frozen BK403.out 4
                    have hfz82_5 := blk_frozen BK403.out 5
                    go_wp2_with (first | (go_at_call 26; (with_reducible refine (queue_Push.calls (fun k_ => k_ < w.heap.size) _ _ l0_0 false a1_0 a1_1 a1_2 a1_3 a1_4 a1_5 a2 t412 true _ ?side1 A47.out).mono ?_); (case side1 => exact Kd.V_mk HC0_0.out (Kd.F_below (Kd.C_F k33_heap HR0_0.out) (hS HB.out))); rintro e w83 ⟨v413, rfl, ho0, hb⟩; have HO414 := Aside0.mk (Kd.V_lower (Kd.V_mono (ok' := fun k_ => k_ ≠ gb402 ∧ k_ ≠ gb403) ho0 (fun k_ hk_ => ⟨Or.elim hk_ (fun hs_ => fun e_ => Nat.not_le.2 hs_ (by rw [e_]; exact GW402.out)) (fun hn_ => (Kd.freshB (bS BK402.out) k_ hn_)), Or.elim hk_ (fun hs_ => fun e_ => Nat.not_le.2 hs_ (by rw [e_]; exact GW403.out)) (fun hn_ => (Kd.freshB (bS BK403.out) k_ hn_))⟩)) (below_size (hS HB.out))); replace BK402 := Aside0.mk (blk_below (bS BK402.out) hb); replace BK403 := Aside0.mk (blk_below (bS BK403.out) hb); replace HB := Aside0.mk (below_step (hS HB.out) hb); (try clear hb); (try clear hb2); (try clear hk); (try clear hi); (try clear ho0)) | ((with_reducible refine gate_dst (N := 7) rfl ?_); (try (refine gate_guard (by rfl) ?_; dsimp only)); refine box_event ?hg (N := 7) ?hd (cs := #[.slice none 0 0, .bool false]) (t := 24) ?hr ?_; (case hd => rfl); (case hg => rfl); (case hr => first | (go_simp; done) | (go_simp; rfl)); intro gb416 hg w84 hbox hb; replace HO414 := Aside0.mk (Kd.V_below (Kd.V_elderB (vS HO414.out) gb416 (Nat.le_of_eq hg.symm)) hb); have BK416 := Aside0.mk (hbox); have GW416 := Aside0.mk ((by rw [hg]; exact (below_size (hS HB.out)) : w.heap.size ≤ gb416)); have GE416 := Aside0.mk ((by rw [hg]; exact (below_size (hS HB.out)) : w.heap.size ≤ gb416)); replace HB := Aside0.mk (below_step (hS HB.out) hb); have NB402_416 := Aside0.mk ((by rw [hg]; exact Nat.ne_of_lt (blk_lt (bS BK402.out)) : gb402 ≠ gb416)); have NB416_402 := Aside0.mk ((by rw [hg]; exact Nat.ne_of_gt (blk_lt (bS BK402.out)) : gb416 ≠ gb402)); replace BK402 := Aside0.mk (blk_below (bS BK402.out) hb); have NB403_416 := Aside0.mk ((by rw [hg]; exact Nat.ne_of_lt (blk_lt (bS BK403.out)) : gb403 ≠ gb416)); have NB416_403 := Aside0.mk ((by rw [hg]; exact Nat.ne_of_gt (blk_lt (bS BK403.out)) : gb416 ≠ gb403)); replace BK403 := Aside0.mk (blk_below (bS BK403.out) hb); clear hb hbox hg; obtain ⟨Ao85, co85, eo85⟩ := Kd.V_slice HO414.out; subst eo85; have hnb86 := NB416_402.out; have hnc86 := NB402_416.out; have hnb87 := NB416_403.out; have hnc87 := NB403_416.out; have hcz88_0 : w84.cell? ⟨gb416, 0, none⟩ = some (.slice none 0 0) := (blk_cell BK416.out 0).trans rfl; have hcz88_1 : w84.cell? ⟨gb416, 1, none⟩ = some (.bool false) := (blk_cell BK416.out 1).trans rfl; have hfz88_0 := blk_frozen BK416.out 0; have hfz88_1 := blk_frozen BK416.out 1) | (go_at_call 13; (with_reducible refine (queue_May.calls kj3 _ _ t412 true a2 true _ ?side1 ?side2 A48.out).mono ?_); (case side1 => refine (Kd.V_reads' (e := 33) (base := w.heap.size) (ok := fun k_ => ((k_ ≠ gb402 ∧ k_ ≠ gb403) ∧ k_ ≠ gb416)) (n := t412.length) (c := co85) ?_).2.2; exact (by (with_reducible repeat (first | apply Kd.V_alloc | apply Kd.V_drewN | apply Kd.V_drew)); exact (Kd.V_mono (vF (b := gb416) (Kd.V_mono HO414.out (fun k_ hk => (⟨hk, hk.2⟩ : _ ∧ k_ ≠ gb416))) (fun _ hk => hk.2)) (fun _ h_ => h_.1)))); (case side2 => exact (Kd.V_reads' HO414.out).2.1); rintro e w89 ⟨rfl, hb⟩; replace HO414 := Aside0.mk (Kd.V_below (by (with_reducible repeat (first | apply Kd.V_alloc | apply Kd.V_drewN | apply Kd.V_drew)); exact (Kd.V_mono (vF (b := gb416) (Kd.V_mono HO414.out (fun k_ hk => (⟨hk, hk.2⟩ : _ ∧ k_ ≠ gb416))) (fun _ hk => hk.2)) (fun _ h_ => h_.1))) hb); replace BK402 := Aside0.mk (blk_below (bF (BK402.out) NB402_416.out) hb); replace BK403 := Aside0.mk (blk_below (bF (BK403.out) NB403_416.out) hb); replace BK416 := Aside0.mk (blk_below (g := gb416) (o := .cells #[.slice Ao85 t412.length co85, .bool true] 24 (0, 0)) (bS (blk_put (bS (blk_put (bS BK416.out) 0 _ rfl)) 1 _ rfl)) hb); replace HB := Aside0.mk (below_step (hF HB.out GE416.out) hb); (try clear hb); (try clear hb2); (try clear hk); (try clear hi); have hcz90_0 : w89.cell? ⟨gb416, 0, none⟩ = some (.slice Ao85 t412.length co85) := (blk_cell BK416.out 0).trans rfl; have hcz90_1 : w89.cell? ⟨gb416, 1, none⟩ = some (.bool true) := (blk_cell BK416.out 1).trans rfl; have hfz90_0 := blk_frozen BK416.out 0; have hfz90_1 := blk_frozen BK416.out 1; have hcz91_0 : w89.cell? ⟨gb402, 0, none⟩ = some (.slice A0_0 l0_0.length c0_0) := (blk_cell BK402.out 0).trans rfl; have hcz91_1 : w89.cell? ⟨gb402, 1, none⟩ = some (.bool false) := (blk_cell BK402.out 1).trans rfl; have hfz91_0 := blk_frozen BK402.out 0; have hfz91_1 := blk_frozen BK402.out 1; have hcz92_0 : w89.cell? ⟨gb403, 0, none⟩ = some (.string a1_0) := (blk_cell BK403.out 0).trans rfl; have hcz92_1 : w89.cell? ⟨gb403, 1, none⟩ = some (.bool a1_1) := (blk_cell BK403.out 1).trans rfl; have hcz92_2 : w89.cell? ⟨gb403, 2, none⟩ = some (.int .i64 a1_2) := (blk_cell BK403.out 2).trans rfl; have hcz92_3 : w89.cell? ⟨gb403, 3, none⟩ = some (.int .i64 a1_3) := (blk_cell BK403.out 3).trans rfl; have hcz92_4 : w89.cell? ⟨gb403, 4, none⟩ = some (.int .i64 a1_4) := (blk_cell BK403.out 4).trans rfl; have hcz92_5 : w89.cell? ⟨gb403, 5, none⟩ = some (.string a1_5) := (blk_cell BK403.out 5).trans rfl; have hfz92_0 := blk_frozen BK403.out 0; have hfz92_1 := blk_frozen BK403.out 1; have hfz92_2 := blk_frozen BK403.out 2; have hfz92_3 := blk_frozen BK403.out 3; have hfz92_4 := blk_frozen BK403.out 4; have hfz92_5 := blk_frozen BK403.out 5) | (go_at_call 17; (with_reducible refine (queue_Find.calls _ _ l0_0 false a1_0 t418 t419 t420 t421 t422 t423 false _ ?side1 ?side2 A51.out).mono ?_); (case side1 => repeat (first | exact (Kd.C_below HR0_0.out HB.out) | (with_reducible refine Kd.C_alloc ?_ _) | (with_reducible refine Kd.C_drewN ?_ _) | (with_reducible refine Kd.C_drew ?_))); (case side2 => exact HC0_0.out); rintro e w93 ⟨rfl, hb⟩; replace HO414 := Aside0.mk (Kd.V_below (vS HO414.out) hb); replace BK402 := Aside0.mk (blk_below (bS BK402.out) hb); replace BK403 := Aside0.mk (blk_below (bS BK403.out) hb); replace BK416 := Aside0.mk (blk_below (bS BK416.out) hb); replace HB := Aside0.mk (below_step (hS HB.out) hb); (try clear hb); (try clear hb2); (try clear hk); (try clear hi)) | ((with_reducible refine gate_dst (N := 8) rfl ?_); (try (refine gate_guard (by rfl) ?_; dsimp only)); refine box_event ?hg (N := 8) ?hd (cs := #[.string (⟨#[]⟩ : ByteArray), .bool false, .int .i64 0, .int .i64 0, .int .i64 0, .string (⟨#[]⟩ : ByteArray)]) (t := 33) ?hr ?_; (case hd => rfl); (case hg => rfl); (case hr => first | (go_simp; done) | (go_simp; rfl)); intro gb425 hg w94 hbox hb; replace HO414 := Aside0.mk (Kd.V_below (Kd.V_elderB (vS HO414.out) gb425 (Nat.le_of_eq hg.symm)) hb); have BK425 := Aside0.mk (hbox); have GW425 := Aside0.mk ((by rw [hg]; exact (below_size (hS HB.out)) : w.heap.size ≤ gb425)); have GE425 := Aside0.mk ((by rw [hg]; exact (below_size (hS HB.out)) : w.heap.size ≤ gb425)); replace HB := Aside0.mk (below_step (hS HB.out) hb); have NB402_425 := Aside0.mk ((by rw [hg]; exact Nat.ne_of_lt (blk_lt (bS BK402.out)) : gb402 ≠ gb425)); have NB425_402 := Aside0.mk ((by rw [hg]; exact Nat.ne_of_gt (blk_lt (bS BK402.out)) : gb425 ≠ gb402)); replace BK402 := Aside0.mk (blk_below (bS BK402.out) hb); have NB403_425 := Aside0.mk ((by rw [hg]; exact Nat.ne_of_lt (blk_lt (bS BK403.out)) : gb403 ≠ gb425)); have NB425_403 := Aside0.mk ((by rw [hg]; exact Nat.ne_of_gt (blk_lt (bS BK403.out)) : gb425 ≠ gb403)); replace BK403 := Aside0.mk (blk_below (bS BK403.out) hb); have NB416_425 := Aside0.mk ((by rw [hg]; exact Nat.ne_of_lt (blk_lt (bS BK416.out)) : gb416 ≠ gb425)); have NB425_416 := Aside0.mk ((by rw [hg]; exact Nat.ne_of_gt (blk_lt (bS BK416.out)) : gb425 ≠ gb416)); replace BK416 := Aside0.mk (blk_below (bS BK416.out) hb); clear hb hbox hg; have hnb95 := NB425_402.out; have hnc95 := NB402_425.out; have hnb96 := NB425_403.out; have hnc96 := NB403_425.out; have hnb97 := NB425_416.out; have hnc97 := NB416_425.out; have hcz98_0 : w94.cell? ⟨gb425, 0, none⟩ = some (.string (⟨#[]⟩ : ByteArray)) := (blk_cell BK425.out 0).trans rfl; have hcz98_1 : w94.cell? ⟨gb425, 1, none⟩ = some (.bool false) := (blk_cell BK425.out 1).trans rfl; have hcz98_2 : w94.cell? ⟨gb425, 2, none⟩ = some (.int .i64 0) := (blk_cell BK425.out 2).trans rfl; have hcz98_3 : w94.cell? ⟨gb425, 3, none⟩ = some (.int .i64 0) := (blk_cell BK425.out 3).trans rfl; have hcz98_4 : w94.cell? ⟨gb425, 4, none⟩ = some (.int .i64 0) := (blk_cell BK425.out 4).trans rfl; have hcz98_5 : w94.cell? ⟨gb425, 5, none⟩ = some (.string (⟨#[]⟩ : ByteArray)) := (blk_cell BK425.out 5).trans rfl; have hfz98_0 := blk_frozen BK425.out 0; have hfz98_1 := blk_frozen BK425.out 1; have hfz98_2 := blk_frozen BK425.out 2; have hfz98_3 := blk_frozen BK425.out 3; have hfz98_4 := blk_frozen BK425.out 4; have hfz98_5 := blk_frozen BK425.out 5; have hcz99_0 : w94.cell? ⟨gb416, 0, none⟩ = some (.slice Ao85 t412.length co85) := (blk_cell BK416.out 0).trans rfl; have hcz99_1 : w94.cell? ⟨gb416, 1, none⟩ = some (.bool true) := (blk_cell BK416.out 1).trans rfl; have hfz99_0 := blk_frozen BK416.out 0; have hfz99_1 := blk_frozen BK416.out 1; have hcz100_0 : w94.cell? ⟨gb402, 0, none⟩ = some (.slice A0_0 l0_0.length c0_0) := (blk_cell BK402.out 0).trans rfl; have hcz100_1 : w94.cell? ⟨gb402, 1, none⟩ = some (.bool false) := (blk_cell BK402.out 1).trans rfl; have hfz100_0 := blk_frozen BK402.out 0; have hfz100_1 := blk_frozen BK402.out 1) | (go_at_call 10; (with_reducible refine (rollcalllaw17_live.calls kj3  t427 _ A79.out).mono ?_); rintro e w101 ⟨rfl, hb⟩; replace HO414 := Aside0.mk (Kd.V_below (by (with_reducible repeat (first | apply Kd.V_alloc | apply Kd.V_drewN | apply Kd.V_drew)); exact (Kd.V_mono (vF (b := gb425) (Kd.V_mono HO414.out (fun k_ hk => (⟨hk, hk.2⟩ : _ ∧ k_ ≠ gb425))) (fun _ hk => hk.2)) (fun _ h_ => h_.1))) hb); replace BK402 := Aside0.mk (blk_below (bF (BK402.out) NB402_425.out) hb); replace BK403 := Aside0.mk (blk_below (bF (BK403.out) NB403_425.out) hb); replace BK416 := Aside0.mk (blk_below (bF (BK416.out) NB416_425.out) hb); replace BK425 := Aside0.mk (blk_below (g := gb425) (o := .cells #[.string t418, .bool t419, .int .i64 t420, .int .i64 t421, .int .i64 t422, .string t423] 33 (0, 0)) (bS (blk_put (bS (blk_put (bS (blk_put (bS (blk_put (bS (blk_put (bS (blk_put (bS BK425.out) 0 _ rfl)) 1 _ rfl)) 2 _ rfl)) 3 _ rfl)) 4 _ rfl)) 5 _ rfl)) hb); replace HB := Aside0.mk (below_step (hF HB.out GE425.out) hb); (try clear hb); (try clear hb2); (try clear hk); (try clear hi)))
                    repeat (go_quiet (first | (go_at_call 26; (with_reducible refine (queue_Push.calls (fun k_ => k_ < w.heap.size) _ _ l0_0 false a1_0 a1_1 a1_2 a1_3 a1_4 a1_5 a2 t412 true _ ?side1 A47.out).mono ?_); (case side1 => exact Kd.V_mk HC0_0.out (Kd.F_below (Kd.C_F k33_heap HR0_0.out) (hS HB.out))); rintro e w83 ⟨v413, rfl, ho0, hb⟩; have HO414 := Aside0.mk (Kd.V_lower (Kd.V_mono (ok' := fun k_ => k_ ≠ gb402 ∧ k_ ≠ gb403) ho0 (fun k_ hk_ => ⟨Or.elim hk_ (fun hs_ => fun e_ => Nat.not_le.2 hs_ (by rw [e_]; exact GW402.out)) (fun hn_ => (Kd.freshB (bS BK402.out) k_ hn_)), Or.elim hk_ (fun hs_ => fun e_ => Nat.not_le.2 hs_ (by rw [e_]; exact GW403.out)) (fun hn_ => (Kd.freshB (bS BK403.out) k_ hn_))⟩)) (below_size (hS HB.out))); replace BK402 := Aside0.mk (blk_below (bS BK402.out) hb); replace BK403 := Aside0.mk (blk_below (bS BK403.out) hb); replace HB := Aside0.mk (below_step (hS HB.out) hb); (try clear hb); (try clear hb2); (try clear hk); (try clear hi); (try clear ho0)) | ((with_reducible refine gate_dst (N := 7) rfl ?_); (try (refine gate_guard (by rfl) ?_; dsimp only)); refine box_event ?hg (N := 7) ?hd (cs := #[.slice none 0 0, .bool false]) (t := 24) ?hr ?_; (case hd => rfl); (case hg => rfl); (case hr => first | (go_simp; done) | (go_simp; rfl)); intro gb416 hg w84 hbox hb; replace HO414 := Aside0.mk (Kd.V_below (Kd.V_elderB (vS HO414.out) gb416 (Nat.le_of_eq hg.symm)) hb); have BK416 := Aside0.mk (hbox); have GW416 := Aside0.mk ((by rw [hg]; exact (below_size (hS HB.out)) : w.heap.size ≤ gb416)); have GE416 := Aside0.mk ((by rw [hg]; exact (below_size (hS HB.out)) : w.heap.size ≤ gb416)); replace HB := Aside0.mk (below_step (hS HB.out) hb); have NB402_416 := Aside0.mk ((by rw [hg]; exact Nat.ne_of_lt (blk_lt (bS BK402.out)) : gb402 ≠ gb416)); have NB416_402 := Aside0.mk ((by rw [hg]; exact Nat.ne_of_gt (blk_lt (bS BK402.out)) : gb416 ≠ gb402)); replace BK402 := Aside0.mk (blk_below (bS BK402.out) hb); have NB403_416 := Aside0.mk ((by rw [hg]; exact Nat.ne_of_lt (blk_lt (bS BK403.out)) : gb403 ≠ gb416)); have NB416_403 := Aside0.mk ((by rw [hg]; exact Nat.ne_of_gt (blk_lt (bS BK403.out)) : gb416 ≠ gb403)); replace BK403 := Aside0.mk (blk_below (bS BK403.out) hb); clear hb hbox hg; obtain ⟨Ao85, co85, eo85⟩ := Kd.V_slice HO414.out; subst eo85; have hnb86 := NB416_402.out; have hnc86 := NB402_416.out; have hnb87 := NB416_403.out; have hnc87 := NB403_416.out; have hcz88_0 : w84.cell? ⟨gb416, 0, none⟩ = some (.slice none 0 0) := (blk_cell BK416.out 0).trans rfl; have hcz88_1 : w84.cell? ⟨gb416, 1, none⟩ = some (.bool false) := (blk_cell BK416.out 1).trans rfl; have hfz88_0 := blk_frozen BK416.out 0; have hfz88_1 := blk_frozen BK416.out 1) | (go_at_call 13; (with_reducible refine (queue_May.calls kj3 _ _ t412 true a2 true _ ?side1 ?side2 A48.out).mono ?_); (case side1 => refine (Kd.V_reads' (e := 33) (base := w.heap.size) (ok := fun k_ => ((k_ ≠ gb402 ∧ k_ ≠ gb403) ∧ k_ ≠ gb416)) (n := t412.length) (c := co85) ?_).2.2; exact (by (with_reducible repeat (first | apply Kd.V_alloc | apply Kd.V_drewN | apply Kd.V_drew)); exact (Kd.V_mono (vF (b := gb416) (Kd.V_mono HO414.out (fun k_ hk => (⟨hk, hk.2⟩ : _ ∧ k_ ≠ gb416))) (fun _ hk => hk.2)) (fun _ h_ => h_.1)))); (case side2 => exact (Kd.V_reads' HO414.out).2.1); rintro e w89 ⟨rfl, hb⟩; replace HO414 := Aside0.mk (Kd.V_below (by (with_reducible repeat (first | apply Kd.V_alloc | apply Kd.V_drewN | apply Kd.V_drew)); exact (Kd.V_mono (vF (b := gb416) (Kd.V_mono HO414.out (fun k_ hk => (⟨hk, hk.2⟩ : _ ∧ k_ ≠ gb416))) (fun _ hk => hk.2)) (fun _ h_ => h_.1))) hb); replace BK402 := Aside0.mk (blk_below (bF (BK402.out) NB402_416.out) hb); replace BK403 := Aside0.mk (blk_below (bF (BK403.out) NB403_416.out) hb); replace BK416 := Aside0.mk (blk_below (g := gb416) (o := .cells #[.slice Ao85 t412.length co85, .bool true] 24 (0, 0)) (bS (blk_put (bS (blk_put (bS BK416.out) 0 _ rfl)) 1 _ rfl)) hb); replace HB := Aside0.mk (below_step (hF HB.out GE416.out) hb); (try clear hb); (try clear hb2); (try clear hk); (try clear hi); have hcz90_0 : w89.cell? ⟨gb416, 0, none⟩ = some (.slice Ao85 t412.length co85) := (blk_cell BK416.out 0).trans rfl; have hcz90_1 : w89.cell? ⟨gb416, 1, none⟩ = some (.bool true) := (blk_cell BK416.out 1).trans rfl; have hfz90_0 := blk_frozen BK416.out 0; have hfz90_1 := blk_frozen BK416.out 1; have hcz91_0 : w89.cell? ⟨gb402, 0, none⟩ = some (.slice A0_0 l0_0.length c0_0) := (blk_cell BK402.out 0).trans rfl; have hcz91_1 : w89.cell? ⟨gb402, 1, none⟩ = some (.bool false) := (blk_cell BK402.out 1).trans rfl; have hfz91_0 := blk_frozen BK402.out 0; have hfz91_1 := blk_frozen BK402.out 1; have hcz92_0 : w89.cell? ⟨gb403, 0, none⟩ = some (.string a1_0) := (blk_cell BK403.out 0).trans rfl; have hcz92_1 : w89.cell? ⟨gb403, 1, none⟩ = some (.bool a1_1) := (blk_cell BK403.out 1).trans rfl; have hcz92_2 : w89.cell? ⟨gb403, 2, none⟩ = some (.int .i64 a1_2) := (blk_cell BK403.out 2).trans rfl; have hcz92_3 : w89.cell? ⟨gb403, 3, none⟩ = some (.int .i64 a1_3) := (blk_cell BK403.out 3).trans rfl; have hcz92_4 : w89.cell? ⟨gb403, 4, none⟩ = some (.int .i64 a1_4) := (blk_cell BK403.out 4).trans rfl; have hcz92_5 : w89.cell? ⟨gb403, 5, none⟩ = some (.string a1_5) := (blk_cell BK403.out 5).trans rfl; have hfz92_0 := blk_frozen BK403.out 0; have hfz92_1 := blk_frozen BK403.out 1; have hfz92_2 := blk_frozen BK403.out 2; have hfz92_3 := blk_frozen BK403.out 3; have hfz92_4 := blk_frozen BK403.out 4; have hfz92_5 := blk_frozen BK403.out 5) | (go_at_call 17; (with_reducible refine (queue_Find.calls _ _ l0_0 false a1_0 t418 t419 t420 t421 t422 t423 false _ ?side1 ?side2 A51.out).mono ?_); (case side1 => repeat (first | exact (Kd.C_below HR0_0.out HB.out) | (with_reducible refine Kd.C_alloc ?_ _) | (with_reducible refine Kd.C_drewN ?_ _) | (with_reducible refine Kd.C_drew ?_))); (case side2 => exact HC0_0.out); rintro e w93 ⟨rfl, hb⟩; replace HO414 := Aside0.mk (Kd.V_below (vS HO414.out) hb); replace BK402 := Aside0.mk (blk_below (bS BK402.out) hb); replace BK403 := Aside0.mk (blk_below (bS BK403.out) hb); replace BK416 := Aside0.mk (blk_below (bS BK416.out) hb); replace HB := Aside0.mk (below_step (hS HB.out) hb); (try clear hb); (try clear hb2); (try clear hk); (try clear hi)) | ((with_reducible refine gate_dst (N := 8) rfl ?_); (try (refine gate_guard (by rfl) ?_; dsimp only)); refine box_event ?hg (N := 8) ?hd (cs := #[.string (⟨#[]⟩ : ByteArray), .bool false, .int .i64 0, .int .i64 0, .int .i64 0, .string (⟨#[]⟩ : ByteArray)]) (t := 33) ?hr ?_; (case hd => rfl); (case hg => rfl); (case hr => first | (go_simp; done) | (go_simp; rfl)); intro gb425 hg w94 hbox hb; replace HO414 := Aside0.mk (Kd.V_below (Kd.V_elderB (vS HO414.out) gb425 (Nat.le_of_eq hg.symm)) hb); have BK425 := Aside0.mk (hbox); have GW425 := Aside0.mk ((by rw [hg]; exact (below_size (hS HB.out)) : w.heap.size ≤ gb425)); have GE425 := Aside0.mk ((by rw [hg]; exact (below_size (hS HB.out)) : w.heap.size ≤ gb425)); replace HB := Aside0.mk (below_step (hS HB.out) hb); have NB402_425 := Aside0.mk ((by rw [hg]; exact Nat.ne_of_lt (blk_lt (bS BK402.out)) : gb402 ≠ gb425)); have NB425_402 := Aside0.mk ((by rw [hg]; exact Nat.ne_of_gt (blk_lt (bS BK402.out)) : gb425 ≠ gb402)); replace BK402 := Aside0.mk (blk_below (bS BK402.out) hb); have NB403_425 := Aside0.mk ((by rw [hg]; exact Nat.ne_of_lt (blk_lt (bS BK403.out)) : gb403 ≠ gb425)); have NB425_403 := Aside0.mk ((by rw [hg]; exact Nat.ne_of_gt (blk_lt (bS BK403.out)) : gb425 ≠ gb403)); replace BK403 := Aside0.mk (blk_below (bS BK403.out) hb); have NB416_425 := Aside0.mk ((by rw [hg]; exact Nat.ne_of_lt (blk_lt (bS BK416.out)) : gb416 ≠ gb425)); have NB425_416 := Aside0.mk ((by rw [hg]; exact Nat.ne_of_gt (blk_lt (bS BK416.out)) : gb425 ≠ gb416)); replace BK416 := Aside0.mk (blk_below (bS BK416.out) hb); clear hb hbox hg; have hnb95 := NB425_402.out; have hnc95 := NB402_425.out; have hnb96 := NB425_403.out; have hnc96 := NB403_425.out; have hnb97 := NB425_416.out; have hnc97 := NB416_425.out; have hcz98_0 : w94.cell? ⟨gb425, 0, none⟩ = some (.string (⟨#[]⟩ : ByteArray)) := (blk_cell BK425.out 0).trans rfl; have hcz98_1 : w94.cell? ⟨gb425, 1, none⟩ = some (.bool false) := (blk_cell BK425.out 1).trans rfl; have hcz98_2 : w94.cell? ⟨gb425, 2, none⟩ = some (.int .i64 0) := (blk_cell BK425.out 2).trans rfl; have hcz98_3 : w94.cell? ⟨gb425, 3, none⟩ = some (.int .i64 0) := (blk_cell BK425.out 3).trans rfl; have hcz98_4 : w94.cell? ⟨gb425, 4, none⟩ = some (.int .i64 0) := (blk_cell BK425.out 4).trans rfl; have hcz98_5 : w94.cell? ⟨gb425, 5, none⟩ = some (.string (⟨#[]⟩ : ByteArray)) := (blk_cell BK425.out 5).trans rfl; have hfz98_0 := blk_frozen BK425.out 0; have hfz98_1 := blk_frozen BK425.out 1; have hfz98_2 := blk_frozen BK425.out 2; have hfz98_3 := blk_frozen BK425.out 3; have hfz98_4 := blk_frozen BK425.out 4; have hfz98_5 := blk_frozen BK425.out 5; have hcz99_0 : w94.cell? ⟨gb416, 0, none⟩ = some (.slice Ao85 t412.length co85) := (blk_cell BK416.out 0).trans rfl; have hcz99_1 : w94.cell? ⟨gb416, 1, none⟩ = some (.bool true) := (blk_cell BK416.out 1).trans rfl; have hfz99_0 := blk_frozen BK416.out 0; have hfz99_1 := blk_frozen BK416.out 1; have hcz100_0 : w94.cell? ⟨gb402, 0, none⟩ = some (.slice A0_0 l0_0.length c0_0) := (blk_cell BK402.out 0).trans rfl; have hcz100_1 : w94.cell? ⟨gb402, 1, none⟩ = some (.bool false) := (blk_cell BK402.out 1).trans rfl; have hfz100_0 := blk_frozen BK402.out 0; have hfz100_1 := blk_frozen BK402.out 1) | (go_at_call 10; (with_reducible refine (rollcalllaw17_live.calls kj3  t427 _ A79.out).mono ?_); rintro e w101 ⟨rfl, hb⟩; replace HO414 := Aside0.mk (Kd.V_below (by (with_reducible repeat (first | apply Kd.V_alloc | apply Kd.V_drewN | apply Kd.V_drew)); exact (Kd.V_mono (vF (b := gb425) (Kd.V_mono HO414.out (fun k_ hk => (⟨hk, hk.2⟩ : _ ∧ k_ ≠ gb425))) (fun _ hk => hk.2)) (fun _ h_ => h_.1))) hb); replace BK402 := Aside0.mk (blk_below (bF (BK402.out) NB402_425.out) hb); replace BK403 := Aside0.mk (blk_below (bF (BK403.out) NB403_425.out) hb); replace BK416 := Aside0.mk (blk_below (bF (BK416.out) NB416_425.out) hb); replace BK425 := Aside0.mk (blk_below (g := gb425) (o := .cells #[.string t418, .bool t419, .int .i64 t420, .int .i64 t421, .int .i64 t422, .string t423] 33 (0, 0)) (bS (blk_put (bS (blk_put (bS (blk_put (bS (blk_put (bS (blk_put (bS (blk_put (bS BK425.out) 0 _ rfl)) 1 _ rfl)) 2 _ rfl)) 3 _ rfl)) 4 _ rfl)) 5 _ rfl)) hb); replace HB := Aside0.mk (below_step (hF HB.out GE425.out) hb); (try clear hb); (try clear hb2); (try clear hk); (try clear hi))); try go_wp2_with (first | (go_at_call 26; (with_reducible refine (queue_Push.calls (fun k_ => k_ < w.heap.size) _ _ l0_0 false a1_0 a1_1 a1_2 a1_3 a1_4 a1_5 a2 t412 true _ ?side1 A47.out).mono ?_); (case side1 => exact Kd.V_mk HC0_0.out (Kd.F_below (Kd.C_F k33_heap HR0_0.out) (hS HB.out))); rintro e w83 ⟨v413, rfl, ho0, hb⟩; have HO414 := Aside0.mk (Kd.V_lower (Kd.V_mono (ok' := fun k_ => k_ ≠ gb402 ∧ k_ ≠ gb403) ho0 (fun k_ hk_ => ⟨Or.elim hk_ (fun hs_ => fun e_ => Nat.not_le.2 hs_ (by rw [e_]; exact GW402.out)) (fun hn_ => (Kd.freshB (bS BK402.out) k_ hn_)), Or.elim hk_ (fun hs_ => fun e_ => Nat.not_le.2 hs_ (by rw [e_]; exact GW403.out)) (fun hn_ => (Kd.freshB (bS BK403.out) k_ hn_))⟩)) (below_size (hS HB.out))); replace BK402 := Aside0.mk (blk_below (bS BK402.out) hb); replace BK403 := Aside0.mk (blk_below (bS BK403.out) hb); replace HB := Aside0.mk (below_step (hS HB.out) hb); (try clear hb); (try clear hb2); (try clear hk); (try clear hi); (try clear ho0)) | ((with_reducible refine gate_dst (N := 7) rfl ?_); (try (refine gate_guard (by rfl) ?_; dsimp only)); refine box_event ?hg (N := 7) ?hd (cs := #[.slice none 0 0, .bool false]) (t := 24) ?hr ?_; (case hd => rfl); (case hg => rfl); (case hr => first | (go_simp; done) | (go_simp; rfl)); intro gb416 hg w84 hbox hb; replace HO414 := Aside0.mk (Kd.V_below (Kd.V_elderB (vS HO414.out) gb416 (Nat.le_of_eq hg.symm)) hb); have BK416 := Aside0.mk (hbox); have GW416 := Aside0.mk ((by rw [hg]; exact (below_size (hS HB.out)) : w.heap.size ≤ gb416)); have GE416 := Aside0.mk ((by rw [hg]; exact (below_size (hS HB.out)) : w.heap.size ≤ gb416)); replace HB := Aside0.mk (below_step (hS HB.out) hb); have NB402_416 := Aside0.mk ((by rw [hg]; exact Nat.ne_of_lt (blk_lt (bS BK402.out)) : gb402 ≠ gb416)); have NB416_402 := Aside0.mk ((by rw [hg]; exact Nat.ne_of_gt (blk_lt (bS BK402.out)) : gb416 ≠ gb402)); replace BK402 := Aside0.mk (blk_below (bS BK402.out) hb); have NB403_416 := Aside0.mk ((by rw [hg]; exact Nat.ne_of_lt (blk_lt (bS BK403.out)) : gb403 ≠ gb416)); have NB416_403 := Aside0.mk ((by rw [hg]; exact Nat.ne_of_gt (blk_lt (bS BK403.out)) : gb416 ≠ gb403)); replace BK403 := Aside0.mk (blk_below (bS BK403.out) hb); clear hb hbox hg; obtain ⟨Ao85, co85, eo85⟩ := Kd.V_slice HO414.out; subst eo85; have hnb86 := NB416_402.out; have hnc86 := NB402_416.out; have hnb87 := NB416_403.out; have hnc87 := NB403_416.out; have hcz88_0 : w84.cell? ⟨gb416, 0, none⟩ = some (.slice none 0 0) := (blk_cell BK416.out 0).trans rfl; have hcz88_1 : w84.cell? ⟨gb416, 1, none⟩ = some (.bool false) := (blk_cell BK416.out 1).trans rfl; have hfz88_0 := blk_frozen BK416.out 0; have hfz88_1 := blk_frozen BK416.out 1) | (go_at_call 13; (with_reducible refine (queue_May.calls kj3 _ _ t412 true a2 true _ ?side1 ?side2 A48.out).mono ?_); (case side1 => refine (Kd.V_reads' (e := 33) (base := w.heap.size) (ok := fun k_ => ((k_ ≠ gb402 ∧ k_ ≠ gb403) ∧ k_ ≠ gb416)) (n := t412.length) (c := co85) ?_).2.2; exact (by (with_reducible repeat (first | apply Kd.V_alloc | apply Kd.V_drewN | apply Kd.V_drew)); exact (Kd.V_mono (vF (b := gb416) (Kd.V_mono HO414.out (fun k_ hk => (⟨hk, hk.2⟩ : _ ∧ k_ ≠ gb416))) (fun _ hk => hk.2)) (fun _ h_ => h_.1)))); (case side2 => exact (Kd.V_reads' HO414.out).2.1); rintro e w89 ⟨rfl, hb⟩; replace HO414 := Aside0.mk (Kd.V_below (by (with_reducible repeat (first | apply Kd.V_alloc | apply Kd.V_drewN | apply Kd.V_drew)); exact (Kd.V_mono (vF (b := gb416) (Kd.V_mono HO414.out (fun k_ hk => (⟨hk, hk.2⟩ : _ ∧ k_ ≠ gb416))) (fun _ hk => hk.2)) (fun _ h_ => h_.1))) hb); replace BK402 := Aside0.mk (blk_below (bF (BK402.out) NB402_416.out) hb); replace BK403 := Aside0.mk (blk_below (bF (BK403.out) NB403_416.out) hb); replace BK416 := Aside0.mk (blk_below (g := gb416) (o := .cells #[.slice Ao85 t412.length co85, .bool true] 24 (0, 0)) (bS (blk_put (bS (blk_put (bS BK416.out) 0 _ rfl)) 1 _ rfl)) hb); replace HB := Aside0.mk (below_step (hF HB.out GE416.out) hb); (try clear hb); (try clear hb2); (try clear hk); (try clear hi); have hcz90_0 : w89.cell? ⟨gb416, 0, none⟩ = some (.slice Ao85 t412.length co85) := (blk_cell BK416.out 0).trans rfl; have hcz90_1 : w89.cell? ⟨gb416, 1, none⟩ = some (.bool true) := (blk_cell BK416.out 1).trans rfl; have hfz90_0 := blk_frozen BK416.out 0; have hfz90_1 := blk_frozen BK416.out 1; have hcz91_0 : w89.cell? ⟨gb402, 0, none⟩ = some (.slice A0_0 l0_0.length c0_0) := (blk_cell BK402.out 0).trans rfl; have hcz91_1 : w89.cell? ⟨gb402, 1, none⟩ = some (.bool false) := (blk_cell BK402.out 1).trans rfl; have hfz91_0 := blk_frozen BK402.out 0; have hfz91_1 := blk_frozen BK402.out 1; have hcz92_0 : w89.cell? ⟨gb403, 0, none⟩ = some (.string a1_0) := (blk_cell BK403.out 0).trans rfl; have hcz92_1 : w89.cell? ⟨gb403, 1, none⟩ = some (.bool a1_1) := (blk_cell BK403.out 1).trans rfl; have hcz92_2 : w89.cell? ⟨gb403, 2, none⟩ = some (.int .i64 a1_2) := (blk_cell BK403.out 2).trans rfl; have hcz92_3 : w89.cell? ⟨gb403, 3, none⟩ = some (.int .i64 a1_3) := (blk_cell BK403.out 3).trans rfl; have hcz92_4 : w89.cell? ⟨gb403, 4, none⟩ = some (.int .i64 a1_4) := (blk_cell BK403.out 4).trans rfl; have hcz92_5 : w89.cell? ⟨gb403, 5, none⟩ = some (.string a1_5) := (blk_cell BK403.out 5).trans rfl; have hfz92_0 := blk_frozen BK403.out 0; have hfz92_1 := blk_frozen BK403.out 1; have hfz92_2 := blk_frozen BK403.out 2; have hfz92_3 := blk_frozen BK403.out 3; have hfz92_4 := blk_frozen BK403.out 4; have hfz92_5 := blk_frozen BK403.out 5) | (go_at_call 17; (with_reducible refine (queue_Find.calls _ _ l0_0 false a1_0 t418 t419 t420 t421 t422 t423 false _ ?side1 ?side2 A51.out).mono ?_); (case side1 => repeat (first | exact (Kd.C_below HR0_0.out HB.out) | (with_reducible refine Kd.C_alloc ?_ _) | (with_reducible refine Kd.C_drewN ?_ _) | (with_reducible refine Kd.C_drew ?_))); (case side2 => exact HC0_0.out); rintro e w93 ⟨rfl, hb⟩; replace HO414 := Aside0.mk (Kd.V_below (vS HO414.out) hb); replace BK402 := Aside0.mk (blk_below (bS BK402.out) hb); replace BK403 := Aside0.mk (blk_below (bS BK403.out) hb); replace BK416 := Aside0.mk (blk_below (bS BK416.out) hb); replace HB := Aside0.mk (below_step (hS HB.out) hb); (try clear hb); (try clear hb2); (try clear hk); (try clear hi)) | ((with_reducible refine gate_dst (N := 8) rfl ?_); (try (refine gate_guard (by rfl) ?_; dsimp only)); refine box_event ?hg (N := 8) ?hd (cs := #[.string (⟨#[]⟩ : ByteArray), .bool false, .int .i64 0, .int .i64 0, .int .i64 0, .string (⟨#[]⟩ : ByteArray)]) (t := 33) ?hr ?_; (case hd => rfl); (case hg => rfl); (case hr => first | (go_simp; done) | (go_simp; rfl)); intro gb425 hg w94 hbox hb; replace HO414 := Aside0.mk (Kd.V_below (Kd.V_elderB (vS HO414.out) gb425 (Nat.le_of_eq hg.symm)) hb); have BK425 := Aside0.mk (hbox); have GW425 := Aside0.mk ((by rw [hg]; exact (below_size (hS HB.out)) : w.heap.size ≤ gb425)); have GE425 := Aside0.mk ((by rw [hg]; exact (below_size (hS HB.out)) : w.heap.size ≤ gb425)); replace HB := Aside0.mk (below_step (hS HB.out) hb); have NB402_425 := Aside0.mk ((by rw [hg]; exact Nat.ne_of_lt (blk_lt (bS BK402.out)) : gb402 ≠ gb425)); have NB425_402 := Aside0.mk ((by rw [hg]; exact Nat.ne_of_gt (blk_lt (bS BK402.out)) : gb425 ≠ gb402)); replace BK402 := Aside0.mk (blk_below (bS BK402.out) hb); have NB403_425 := Aside0.mk ((by rw [hg]; exact Nat.ne_of_lt (blk_lt (bS BK403.out)) : gb403 ≠ gb425)); have NB425_403 := Aside0.mk ((by rw [hg]; exact Nat.ne_of_gt (blk_lt (bS BK403.out)) : gb425 ≠ gb403)); replace BK403 := Aside0.mk (blk_below (bS BK403.out) hb); have NB416_425 := Aside0.mk ((by rw [hg]; exact Nat.ne_of_lt (blk_lt (bS BK416.out)) : gb416 ≠ gb425)); have NB425_416 := Aside0.mk ((by rw [hg]; exact Nat.ne_of_gt (blk_lt (bS BK416.out)) : gb425 ≠ gb416)); replace BK416 := Aside0.mk (blk_below (bS BK416.out) hb); clear hb hbox hg; have hnb95 := NB425_402.out; have hnc95 := NB402_425.out; have hnb96 := NB425_403.out; have hnc96 := NB403_425.out; have hnb97 := NB425_416.out; have hnc97 := NB416_425.out; have hcz98_0 : w94.cell? ⟨gb425, 0, none⟩ = some (.string (⟨#[]⟩ : ByteArray)) := (blk_cell BK425.out 0).trans rfl; have hcz98_1 : w94.cell? ⟨gb425, 1, none⟩ = some (.bool false) := (blk_cell BK425.out 1).trans rfl; have hcz98_2 : w94.cell? ⟨gb425, 2, none⟩ = some (.int .i64 0) := (blk_cell BK425.out 2).trans rfl; have hcz98_3 : w94.cell? ⟨gb425, 3, none⟩ = some (.int .i64 0) := (blk_cell BK425.out 3).trans rfl; have hcz98_4 : w94.cell? ⟨gb425, 4, none⟩ = some (.int .i64 0) := (blk_cell BK425.out 4).trans rfl; have hcz98_5 : w94.cell? ⟨gb425, 5, none⟩ = some (.string (⟨#[]⟩ : ByteArray)) := (blk_cell BK425.out 5).trans rfl; have hfz98_0 := blk_frozen BK425.out 0; have hfz98_1 := blk_frozen BK425.out 1; have hfz98_2 := blk_frozen BK425.out 2; have hfz98_3 := blk_frozen BK425.out 3; have hfz98_4 := blk_frozen BK425.out 4; have hfz98_5 := blk_frozen BK425.out 5; have hcz99_0 : w94.cell? ⟨gb416, 0, none⟩ = some (.slice Ao85 t412.length co85) := (blk_cell BK416.out 0).trans rfl; have hcz99_1 : w94.cell? ⟨gb416, 1, none⟩ = some (.bool true) := (blk_cell BK416.out 1).trans rfl; have hfz99_0 := blk_frozen BK416.out 0; have hfz99_1 := blk_frozen BK416.out 1; have hcz100_0 : w94.cell? ⟨gb402, 0, none⟩ = some (.slice A0_0 l0_0.length c0_0) := (blk_cell BK402.out 0).trans rfl; have hcz100_1 : w94.cell? ⟨gb402, 1, none⟩ = some (.bool false) := (blk_cell BK402.out 1).trans rfl; have hfz100_0 := blk_frozen BK402.out 0; have hfz100_1 := blk_frozen BK402.out 1) | (go_at_call 10; (with_reducible refine (rollcalllaw17_live.calls kj3  t427 _ A79.out).mono ?_); rintro e w101 ⟨rfl, hb⟩; replace HO414 := Aside0.mk (Kd.V_below (by (with_reducible repeat (first | apply Kd.V_alloc | apply Kd.V_drewN | apply Kd.V_drew)); exact (Kd.V_mono (vF (b := gb425) (Kd.V_mono HO414.out (fun k_ hk => (⟨hk, hk.2⟩ : _ ∧ k_ ≠ gb425))) (fun _ hk => hk.2)) (fun _ h_ => h_.1))) hb); replace BK402 := Aside0.mk (blk_below (bF (BK402.out) NB402_425.out) hb); replace BK403 := Aside0.mk (blk_below (bF (BK403.out) NB403_425.out) hb); replace BK416 := Aside0.mk (blk_below (bF (BK416.out) NB416_425.out) hb); replace BK425 := Aside0.mk (blk_below (g := gb425) (o := .cells #[.string t418, .bool t419, .int .i64 t420, .int .i64 t421, .int .i64 t422, .string t423] 33 (0, 0)) (bS (blk_put (bS (blk_put (bS (blk_put (bS (blk_put (bS (blk_put (bS (blk_put (bS BK425.out) 0 _ rfl)) 1 _ rfl)) 2 _ rfl)) 3 _ rfl)) 4 _ rfl)) 5 _ rfl)) hb); replace HB := Aside0.mk (below_step (hF HB.out GE425.out) hb); (try clear hb); (try clear hb2); (try clear hk); (try clear hi))))
                    go_ret
                    exact ⟨by first | rfl | (simp [errW_none, errW_some] <;> rfl) | (simp [*, errW_none, errW_some] <;> rfl), by repeat (first | (with_reducible first | exact HB.out | apply below_alloc | apply pw_below_drewN | apply below_drew1 | refine below_set ?_ GE402.out | refine below_set ?_ GE403.out | refine below_set ?_ GE416.out | refine below_set ?_ GE425.out) | exact HB.out)⟩
                  · rw [if_neg c78] at H
                    have c78b0 : ((l0_0.length : Int) == a2) = false := beq_eq_false_iff_ne.mpr c78
                    have c78b1 : ((l0_0.length : Int) != a2) = true := bne_iff_ne.mpr c78
                    exact absurd ((Option.some.inj H).trans HT.out) (by simp)
            · rw [if_neg c52] at H
              have c52b0 : ((t412.length : Int) == 0) = false := beq_eq_false_iff_ne.mpr c52
              have c52b1 : ((t412.length : Int) != 0) = true := bne_iff_ne.mpr c52
              have c52b2 : ¬ (t412 = []) := fun h_ => c52 (by rw [h_]; rfl)
              exact absurd ((Option.some.inj H).trans HT.out) (by simp)
          · replace c50 := Bool.eq_false_iff.mpr c50
            subst c50
            have H1 : ((queue_Find.f t412 false a1_0).bind fun bt428 => (if bt428.2.2.2.2.2.2 = true then (if (!(bt428.1.toList == a1_0.toList) || (!(bt428.2.1 == a1_1) || ((!(bt428.2.2.1 == a1_2) || (!(bt428.2.2.2.1 == a1_3) || (!(bt428.2.2.2.2.1 == a1_4) || (!(bt428.2.2.2.2.2.1.toList == a1_5.toList)))))))) = true then (rollcalllaw17_QueueMay.j1 kj3 true l0_0 a0_1 a1_0 a1_1 a1_2 a1_3 a1_4 a1_5 t412 false) else (if a0_1 = true then (rollcalllaw17_QueueMay.j1 kj3 true l0_0 a0_1 a1_0 a1_1 a1_2 a1_3 a1_4 a1_5 t412 false) else (if (t412.length : Int) < (l0_0.length : Int) then (rollcalllaw17_QueueMay.j1 kj3 true l0_0 a0_1 a1_0 a1_1 a1_2 a1_3 a1_4 a1_5 t412 false) else (rollcalllaw17_QueueMay.j1 kj3 (decide ((t412.length : Int) > (wrap64 ((l0_0.length : Int) + 1)))) l0_0 a0_1 a1_0 a1_1 a1_2 a1_3 a1_4 a1_5 t412 false)))) else (rollcalllaw17_QueueMay.j1 kj3 true l0_0 a0_1 a1_0 a1_1 a1_2 a1_3 a1_4 a1_5 t412 false))) = some r := by rw [if_neg (show ¬ (false = true) by decide)] at H; exact H
            clear H
            have H := H1
            clear H1
            replace H := Option.bind_eq_some_iff.mp H
            obtain ⟨⟨t428, t429, t430, t431, t432, t433, t434⟩, A1020, H⟩ := H
            replace H : (if t434 = true then (if (!(t428.toList == a1_0.toList) || (!(t429 == a1_1) || ((!(t430 == a1_2) || (!(t431 == a1_3) || (!(t432 == a1_4) || (!(t433.toList == a1_5.toList)))))))) = true then (rollcalllaw17_QueueMay.j1 kj3 true l0_0 a0_1 a1_0 a1_1 a1_2 a1_3 a1_4 a1_5 t412 false) else (if a0_1 = true then (rollcalllaw17_QueueMay.j1 kj3 true l0_0 a0_1 a1_0 a1_1 a1_2 a1_3 a1_4 a1_5 t412 false) else (if (t412.length : Int) < (l0_0.length : Int) then (rollcalllaw17_QueueMay.j1 kj3 true l0_0 a0_1 a1_0 a1_1 a1_2 a1_3 a1_4 a1_5 t412 false) else (rollcalllaw17_QueueMay.j1 kj3 (decide ((t412.length : Int) > (wrap64 ((l0_0.length : Int) + 1)))) l0_0 a0_1 a1_0 a1_1 a1_2 a1_3 a1_4 a1_5 t412 false)))) else (rollcalllaw17_QueueMay.j1 kj3 true l0_0 a0_1 a1_0 a1_1 a1_2 a1_3 a1_4 a1_5 t412 false)) = some r := H
            have A102 := Aside0.mk A1020
            clear A1020
            have HC103 := Aside0.mk H
            clear H
            have hnb104 := NB402_403.out
            have hnc104 := NB403_402.out
            have hcz105_0 : wc.cell? ⟨gb402, 0, none⟩ = some (.slice A0_0 l0_0.length c0_0) := (blk_cell BK402.out 0).trans rfl
            have hcz105_1 : wc.cell? ⟨gb402, 1, none⟩ = some (.bool a0_1) := (blk_cell BK402.out 1).trans rfl
            have hfz105_0 := blk_frozen BK402.out 0
            have hfz105_1 := blk_frozen BK402.out 1
            have hcz106_0 : wc.cell? ⟨gb403, 0, none⟩ = some (.string a1_0) := (blk_cell BK403.out 0).trans rfl
            have hcz106_1 : wc.cell? ⟨gb403, 1, none⟩ = some (.bool a1_1) := (blk_cell BK403.out 1).trans rfl
            have hcz106_2 : wc.cell? ⟨gb403, 2, none⟩ = some (.int .i64 a1_2) := (blk_cell BK403.out 2).trans rfl
            have hcz106_3 : wc.cell? ⟨gb403, 3, none⟩ = some (.int .i64 a1_3) := (blk_cell BK403.out 3).trans rfl
            have hcz106_4 : wc.cell? ⟨gb403, 4, none⟩ = some (.int .i64 a1_4) := (blk_cell BK403.out 4).trans rfl
            have hcz106_5 : wc.cell? ⟨gb403, 5, none⟩ = some (.string a1_5) := (blk_cell BK403.out 5).trans rfl
            have hfz106_0 := blk_frozen BK403.out 0
            have hfz106_1 := blk_frozen BK403.out 1
            have hfz106_2 := blk_frozen BK403.out 2
            have hfz106_3 := blk_frozen BK403.out 3
            have hfz106_4 := blk_frozen BK403.out 4
            have hfz106_5 := blk_frozen BK403.out 5
            go_upto_region 10 with (first | (go_at_call 26; (with_reducible refine (queue_Push.calls (fun k_ => k_ < w.heap.size) _ _ l0_0 a0_1 a1_0 a1_1 a1_2 a1_3 a1_4 a1_5 a2 t412 false _ ?side1 A47.out).mono ?_); (case side1 => exact Kd.V_mk HC0_0.out (Kd.F_below (Kd.C_F k33_heap HR0_0.out) (hS HB.out))); rintro e w107 ⟨v413, rfl, ho0, hb⟩; have HO414 := Aside0.mk (Kd.V_lower (Kd.V_mono (ok' := fun k_ => k_ ≠ gb402 ∧ k_ ≠ gb403) ho0 (fun k_ hk_ => ⟨Or.elim hk_ (fun hs_ => fun e_ => Nat.not_le.2 hs_ (by rw [e_]; exact GW402.out)) (fun hn_ => (Kd.freshB (bS BK402.out) k_ hn_)), Or.elim hk_ (fun hs_ => fun e_ => Nat.not_le.2 hs_ (by rw [e_]; exact GW403.out)) (fun hn_ => (Kd.freshB (bS BK403.out) k_ hn_))⟩)) (below_size (hS HB.out))); replace BK402 := Aside0.mk (blk_below (bS BK402.out) hb); replace BK403 := Aside0.mk (blk_below (bS BK403.out) hb); replace HB := Aside0.mk (below_step (hS HB.out) hb); (try clear hb); (try clear hb2); (try clear hk); (try clear hi); (try clear ho0)) | ((with_reducible refine gate_dst (N := 7) rfl ?_); (try (refine gate_guard (by rfl) ?_; dsimp only)); refine box_event ?hg (N := 7) ?hd (cs := #[.slice none 0 0, .bool false]) (t := 24) ?hr ?_; (case hd => rfl); (case hg => rfl); (case hr => first | (go_simp; done) | (go_simp; rfl)); intro gb416 hg w108 hbox hb; replace HO414 := Aside0.mk (Kd.V_below (Kd.V_elderB (vS HO414.out) gb416 (Nat.le_of_eq hg.symm)) hb); have BK416 := Aside0.mk (hbox); have GW416 := Aside0.mk ((by rw [hg]; exact (below_size (hS HB.out)) : w.heap.size ≤ gb416)); have GE416 := Aside0.mk ((by rw [hg]; exact (below_size (hS HB.out)) : w.heap.size ≤ gb416)); replace HB := Aside0.mk (below_step (hS HB.out) hb); have NB402_416 := Aside0.mk ((by rw [hg]; exact Nat.ne_of_lt (blk_lt (bS BK402.out)) : gb402 ≠ gb416)); have NB416_402 := Aside0.mk ((by rw [hg]; exact Nat.ne_of_gt (blk_lt (bS BK402.out)) : gb416 ≠ gb402)); replace BK402 := Aside0.mk (blk_below (bS BK402.out) hb); have NB403_416 := Aside0.mk ((by rw [hg]; exact Nat.ne_of_lt (blk_lt (bS BK403.out)) : gb403 ≠ gb416)); have NB416_403 := Aside0.mk ((by rw [hg]; exact Nat.ne_of_gt (blk_lt (bS BK403.out)) : gb416 ≠ gb403)); replace BK403 := Aside0.mk (blk_below (bS BK403.out) hb); clear hb hbox hg; obtain ⟨Ao109, co109, eo109⟩ := Kd.V_slice HO414.out; subst eo109; have hnb110 := NB416_402.out; have hnc110 := NB402_416.out; have hnb111 := NB416_403.out; have hnc111 := NB403_416.out; have hcz112_0 : w108.cell? ⟨gb416, 0, none⟩ = some (.slice none 0 0) := (blk_cell BK416.out 0).trans rfl; have hcz112_1 : w108.cell? ⟨gb416, 1, none⟩ = some (.bool false) := (blk_cell BK416.out 1).trans rfl; have hfz112_0 := blk_frozen BK416.out 0; have hfz112_1 := blk_frozen BK416.out 1) | (go_at_call 13; (with_reducible refine (queue_May.calls kj3 _ _ t412 false a2 true _ ?side1 ?side2 A48.out).mono ?_); (case side1 => refine (Kd.V_reads' (e := 33) (base := w.heap.size) (ok := fun k_ => ((k_ ≠ gb402 ∧ k_ ≠ gb403) ∧ k_ ≠ gb416)) (n := t412.length) (c := co109) ?_).2.2; exact (by (with_reducible repeat (first | apply Kd.V_alloc | apply Kd.V_drewN | apply Kd.V_drew)); exact (Kd.V_mono (vF (b := gb416) (Kd.V_mono HO414.out (fun k_ hk => (⟨hk, hk.2⟩ : _ ∧ k_ ≠ gb416))) (fun _ hk => hk.2)) (fun _ h_ => h_.1)))); (case side2 => exact (Kd.V_reads' HO414.out).2.1); rintro e w113 ⟨rfl, hb⟩; replace HO414 := Aside0.mk (Kd.V_below (by (with_reducible repeat (first | apply Kd.V_alloc | apply Kd.V_drewN | apply Kd.V_drew)); exact (Kd.V_mono (vF (b := gb416) (Kd.V_mono HO414.out (fun k_ hk => (⟨hk, hk.2⟩ : _ ∧ k_ ≠ gb416))) (fun _ hk => hk.2)) (fun _ h_ => h_.1))) hb); replace BK402 := Aside0.mk (blk_below (bF (BK402.out) NB402_416.out) hb); replace BK403 := Aside0.mk (blk_below (bF (BK403.out) NB403_416.out) hb); replace BK416 := Aside0.mk (blk_below (g := gb416) (o := .cells #[.slice Ao109 t412.length co109, .bool false] 24 (0, 0)) (bS (blk_put (bS (blk_put (bS BK416.out) 0 _ rfl)) 1 _ rfl)) hb); replace HB := Aside0.mk (below_step (hF HB.out GE416.out) hb); (try clear hb); (try clear hb2); (try clear hk); (try clear hi); have hcz114_0 : w113.cell? ⟨gb416, 0, none⟩ = some (.slice Ao109 t412.length co109) := (blk_cell BK416.out 0).trans rfl; have hcz114_1 : w113.cell? ⟨gb416, 1, none⟩ = some (.bool false) := (blk_cell BK416.out 1).trans rfl; have hfz114_0 := blk_frozen BK416.out 0; have hfz114_1 := blk_frozen BK416.out 1; have hcz115_0 : w113.cell? ⟨gb403, 0, none⟩ = some (.string a1_0) := (blk_cell BK403.out 0).trans rfl; have hcz115_1 : w113.cell? ⟨gb403, 1, none⟩ = some (.bool a1_1) := (blk_cell BK403.out 1).trans rfl; have hcz115_2 : w113.cell? ⟨gb403, 2, none⟩ = some (.int .i64 a1_2) := (blk_cell BK403.out 2).trans rfl; have hcz115_3 : w113.cell? ⟨gb403, 3, none⟩ = some (.int .i64 a1_3) := (blk_cell BK403.out 3).trans rfl; have hcz115_4 : w113.cell? ⟨gb403, 4, none⟩ = some (.int .i64 a1_4) := (blk_cell BK403.out 4).trans rfl; have hcz115_5 : w113.cell? ⟨gb403, 5, none⟩ = some (.string a1_5) := (blk_cell BK403.out 5).trans rfl; have hfz115_0 := blk_frozen BK403.out 0; have hfz115_1 := blk_frozen BK403.out 1; have hfz115_2 := blk_frozen BK403.out 2; have hfz115_3 := blk_frozen BK403.out 3; have hfz115_4 := blk_frozen BK403.out 4; have hfz115_5 := blk_frozen BK403.out 5) | (go_at_call 17; (with_reducible refine (queue_Find.calls _ _ t412 false a1_0 t428 t429 t430 t431 t432 t433 t434 _ ?side1 ?side2 A102.out).mono ?_); (case side1 => repeat (first | exact (Kd.V_reads' HO414.out).2.2 | (with_reducible refine Kd.C_alloc ?_ _) | (with_reducible refine Kd.C_drewN ?_ _) | (with_reducible refine Kd.C_drew ?_))); (case side2 => exact (Kd.V_reads' HO414.out).2.1); rintro e w116 ⟨rfl, hb⟩; replace HO414 := Aside0.mk (Kd.V_below (vS HO414.out) hb); replace BK402 := Aside0.mk (blk_below (bS BK402.out) hb); replace BK403 := Aside0.mk (blk_below (bS BK403.out) hb); replace BK416 := Aside0.mk (blk_below (bS BK416.out) hb); replace HB := Aside0.mk (below_step (hS HB.out) hb); (try clear hb); (try clear hb2); (try clear hk); (try clear hi)) | ((with_reducible refine gate_dst (N := 10) rfl ?_); (try (refine gate_guard (by rfl) ?_; dsimp only)); refine box_event ?hg (N := 10) ?hd (cs := #[.string (⟨#[]⟩ : ByteArray), .bool false, .int .i64 0, .int .i64 0, .int .i64 0, .string (⟨#[]⟩ : ByteArray)]) (t := 33) ?hr ?_; (case hd => rfl); (case hg => rfl); (case hr => first | (go_simp; done) | (go_simp; rfl)); intro gb435 hg w117 hbox hb; replace HO414 := Aside0.mk (Kd.V_below (Kd.V_elderB (vS HO414.out) gb435 (Nat.le_of_eq hg.symm)) hb); have BK435 := Aside0.mk (hbox); have GW435 := Aside0.mk ((by rw [hg]; exact (below_size (hS HB.out)) : w.heap.size ≤ gb435)); have GE435 := Aside0.mk ((by rw [hg]; exact (below_size (hS HB.out)) : w.heap.size ≤ gb435)); replace HB := Aside0.mk (below_step (hS HB.out) hb); have NB402_435 := Aside0.mk ((by rw [hg]; exact Nat.ne_of_lt (blk_lt (bS BK402.out)) : gb402 ≠ gb435)); have NB435_402 := Aside0.mk ((by rw [hg]; exact Nat.ne_of_gt (blk_lt (bS BK402.out)) : gb435 ≠ gb402)); replace BK402 := Aside0.mk (blk_below (bS BK402.out) hb); have NB403_435 := Aside0.mk ((by rw [hg]; exact Nat.ne_of_lt (blk_lt (bS BK403.out)) : gb403 ≠ gb435)); have NB435_403 := Aside0.mk ((by rw [hg]; exact Nat.ne_of_gt (blk_lt (bS BK403.out)) : gb435 ≠ gb403)); replace BK403 := Aside0.mk (blk_below (bS BK403.out) hb); have NB416_435 := Aside0.mk ((by rw [hg]; exact Nat.ne_of_lt (blk_lt (bS BK416.out)) : gb416 ≠ gb435)); have NB435_416 := Aside0.mk ((by rw [hg]; exact Nat.ne_of_gt (blk_lt (bS BK416.out)) : gb435 ≠ gb416)); replace BK416 := Aside0.mk (blk_below (bS BK416.out) hb); clear hb hbox hg; have hnb118 := NB435_402.out; have hnc118 := NB402_435.out; have hnb119 := NB435_403.out; have hnc119 := NB403_435.out; have hnb120 := NB435_416.out; have hnc120 := NB416_435.out; have hcz121_0 : w117.cell? ⟨gb435, 0, none⟩ = some (.string (⟨#[]⟩ : ByteArray)) := (blk_cell BK435.out 0).trans rfl; have hcz121_1 : w117.cell? ⟨gb435, 1, none⟩ = some (.bool false) := (blk_cell BK435.out 1).trans rfl; have hcz121_2 : w117.cell? ⟨gb435, 2, none⟩ = some (.int .i64 0) := (blk_cell BK435.out 2).trans rfl; have hcz121_3 : w117.cell? ⟨gb435, 3, none⟩ = some (.int .i64 0) := (blk_cell BK435.out 3).trans rfl; have hcz121_4 : w117.cell? ⟨gb435, 4, none⟩ = some (.int .i64 0) := (blk_cell BK435.out 4).trans rfl; have hcz121_5 : w117.cell? ⟨gb435, 5, none⟩ = some (.string (⟨#[]⟩ : ByteArray)) := (blk_cell BK435.out 5).trans rfl; have hfz121_0 := blk_frozen BK435.out 0; have hfz121_1 := blk_frozen BK435.out 1; have hfz121_2 := blk_frozen BK435.out 2; have hfz121_3 := blk_frozen BK435.out 3; have hfz121_4 := blk_frozen BK435.out 4; have hfz121_5 := blk_frozen BK435.out 5))
            repeat (go_quiet (first | (go_at_call 26; (with_reducible refine (queue_Push.calls (fun k_ => k_ < w.heap.size) _ _ l0_0 a0_1 a1_0 a1_1 a1_2 a1_3 a1_4 a1_5 a2 t412 false _ ?side1 A47.out).mono ?_); (case side1 => exact Kd.V_mk HC0_0.out (Kd.F_below (Kd.C_F k33_heap HR0_0.out) (hS HB.out))); rintro e w107 ⟨v413, rfl, ho0, hb⟩; have HO414 := Aside0.mk (Kd.V_lower (Kd.V_mono (ok' := fun k_ => k_ ≠ gb402 ∧ k_ ≠ gb403) ho0 (fun k_ hk_ => ⟨Or.elim hk_ (fun hs_ => fun e_ => Nat.not_le.2 hs_ (by rw [e_]; exact GW402.out)) (fun hn_ => (Kd.freshB (bS BK402.out) k_ hn_)), Or.elim hk_ (fun hs_ => fun e_ => Nat.not_le.2 hs_ (by rw [e_]; exact GW403.out)) (fun hn_ => (Kd.freshB (bS BK403.out) k_ hn_))⟩)) (below_size (hS HB.out))); replace BK402 := Aside0.mk (blk_below (bS BK402.out) hb); replace BK403 := Aside0.mk (blk_below (bS BK403.out) hb); replace HB := Aside0.mk (below_step (hS HB.out) hb); (try clear hb); (try clear hb2); (try clear hk); (try clear hi); (try clear ho0)) | ((with_reducible refine gate_dst (N := 7) rfl ?_); (try (refine gate_guard (by rfl) ?_; dsimp only)); refine box_event ?hg (N := 7) ?hd (cs := #[.slice none 0 0, .bool false]) (t := 24) ?hr ?_; (case hd => rfl); (case hg => rfl); (case hr => first | (go_simp; done) | (go_simp; rfl)); intro gb416 hg w108 hbox hb; replace HO414 := Aside0.mk (Kd.V_below (Kd.V_elderB (vS HO414.out) gb416 (Nat.le_of_eq hg.symm)) hb); have BK416 := Aside0.mk (hbox); have GW416 := Aside0.mk ((by rw [hg]; exact (below_size (hS HB.out)) : w.heap.size ≤ gb416)); have GE416 := Aside0.mk ((by rw [hg]; exact (below_size (hS HB.out)) : w.heap.size ≤ gb416)); replace HB := Aside0.mk (below_step (hS HB.out) hb); have NB402_416 := Aside0.mk ((by rw [hg]; exact Nat.ne_of_lt (blk_lt (bS BK402.out)) : gb402 ≠ gb416)); have NB416_402 := Aside0.mk ((by rw [hg]; exact Nat.ne_of_gt (blk_lt (bS BK402.out)) : gb416 ≠ gb402)); replace BK402 := Aside0.mk (blk_below (bS BK402.out) hb); have NB403_416 := Aside0.mk ((by rw [hg]; exact Nat.ne_of_lt (blk_lt (bS BK403.out)) : gb403 ≠ gb416)); have NB416_403 := Aside0.mk ((by rw [hg]; exact Nat.ne_of_gt (blk_lt (bS BK403.out)) : gb416 ≠ gb403)); replace BK403 := Aside0.mk (blk_below (bS BK403.out) hb); clear hb hbox hg; obtain ⟨Ao109, co109, eo109⟩ := Kd.V_slice HO414.out; subst eo109; have hnb110 := NB416_402.out; have hnc110 := NB402_416.out; have hnb111 := NB416_403.out; have hnc111 := NB403_416.out; have hcz112_0 : w108.cell? ⟨gb416, 0, none⟩ = some (.slice none 0 0) := (blk_cell BK416.out 0).trans rfl; have hcz112_1 : w108.cell? ⟨gb416, 1, none⟩ = some (.bool false) := (blk_cell BK416.out 1).trans rfl; have hfz112_0 := blk_frozen BK416.out 0; have hfz112_1 := blk_frozen BK416.out 1) | (go_at_call 13; (with_reducible refine (queue_May.calls kj3 _ _ t412 false a2 true _ ?side1 ?side2 A48.out).mono ?_); (case side1 => refine (Kd.V_reads' (e := 33) (base := w.heap.size) (ok := fun k_ => ((k_ ≠ gb402 ∧ k_ ≠ gb403) ∧ k_ ≠ gb416)) (n := t412.length) (c := co109) ?_).2.2; exact (by (with_reducible repeat (first | apply Kd.V_alloc | apply Kd.V_drewN | apply Kd.V_drew)); exact (Kd.V_mono (vF (b := gb416) (Kd.V_mono HO414.out (fun k_ hk => (⟨hk, hk.2⟩ : _ ∧ k_ ≠ gb416))) (fun _ hk => hk.2)) (fun _ h_ => h_.1)))); (case side2 => exact (Kd.V_reads' HO414.out).2.1); rintro e w113 ⟨rfl, hb⟩; replace HO414 := Aside0.mk (Kd.V_below (by (with_reducible repeat (first | apply Kd.V_alloc | apply Kd.V_drewN | apply Kd.V_drew)); exact (Kd.V_mono (vF (b := gb416) (Kd.V_mono HO414.out (fun k_ hk => (⟨hk, hk.2⟩ : _ ∧ k_ ≠ gb416))) (fun _ hk => hk.2)) (fun _ h_ => h_.1))) hb); replace BK402 := Aside0.mk (blk_below (bF (BK402.out) NB402_416.out) hb); replace BK403 := Aside0.mk (blk_below (bF (BK403.out) NB403_416.out) hb); replace BK416 := Aside0.mk (blk_below (g := gb416) (o := .cells #[.slice Ao109 t412.length co109, .bool false] 24 (0, 0)) (bS (blk_put (bS (blk_put (bS BK416.out) 0 _ rfl)) 1 _ rfl)) hb); replace HB := Aside0.mk (below_step (hF HB.out GE416.out) hb); (try clear hb); (try clear hb2); (try clear hk); (try clear hi); have hcz114_0 : w113.cell? ⟨gb416, 0, none⟩ = some (.slice Ao109 t412.length co109) := (blk_cell BK416.out 0).trans rfl; have hcz114_1 : w113.cell? ⟨gb416, 1, none⟩ = some (.bool false) := (blk_cell BK416.out 1).trans rfl; have hfz114_0 := blk_frozen BK416.out 0; have hfz114_1 := blk_frozen BK416.out 1; have hcz115_0 : w113.cell? ⟨gb403, 0, none⟩ = some (.string a1_0) := (blk_cell BK403.out 0).trans rfl; have hcz115_1 : w113.cell? ⟨gb403, 1, none⟩ = some (.bool a1_1) := (blk_cell BK403.out 1).trans rfl; have hcz115_2 : w113.cell? ⟨gb403, 2, none⟩ = some (.int .i64 a1_2) := (blk_cell BK403.out 2).trans rfl; have hcz115_3 : w113.cell? ⟨gb403, 3, none⟩ = some (.int .i64 a1_3) := (blk_cell BK403.out 3).trans rfl; have hcz115_4 : w113.cell? ⟨gb403, 4, none⟩ = some (.int .i64 a1_4) := (blk_cell BK403.out 4).trans rfl; have hcz115_5 : w113.cell? ⟨gb403, 5, none⟩ = some (.string a1_5) := (blk_cell BK403.out 5).trans rfl; have hfz115_0 := blk_frozen BK403.out 0; have hfz115_1 := blk_frozen BK403.out 1; have hfz115_2 := blk_frozen BK403.out 2; have hfz115_3 := blk_frozen BK403.out 3; have hfz115_4 := blk_frozen BK403.out 4; have hfz115_5 := blk_frozen BK403.out 5) | (go_at_call 17; (with_reducible refine (queue_Find.calls _ _ t412 false a1_0 t428 t429 t430 t431 t432 t433 t434 _ ?side1 ?side2 A102.out).mono ?_); (case side1 => repeat (first | exact (Kd.V_reads' HO414.out).2.2 | (with_reducible refine Kd.C_alloc ?_ _) | (with_reducible refine Kd.C_drewN ?_ _) | (with_reducible refine Kd.C_drew ?_))); (case side2 => exact (Kd.V_reads' HO414.out).2.1); rintro e w116 ⟨rfl, hb⟩; replace HO414 := Aside0.mk (Kd.V_below (vS HO414.out) hb); replace BK402 := Aside0.mk (blk_below (bS BK402.out) hb); replace BK403 := Aside0.mk (blk_below (bS BK403.out) hb); replace BK416 := Aside0.mk (blk_below (bS BK416.out) hb); replace HB := Aside0.mk (below_step (hS HB.out) hb); (try clear hb); (try clear hb2); (try clear hk); (try clear hi)) | ((with_reducible refine gate_dst (N := 10) rfl ?_); (try (refine gate_guard (by rfl) ?_; dsimp only)); refine box_event ?hg (N := 10) ?hd (cs := #[.string (⟨#[]⟩ : ByteArray), .bool false, .int .i64 0, .int .i64 0, .int .i64 0, .string (⟨#[]⟩ : ByteArray)]) (t := 33) ?hr ?_; (case hd => rfl); (case hg => rfl); (case hr => first | (go_simp; done) | (go_simp; rfl)); intro gb435 hg w117 hbox hb; replace HO414 := Aside0.mk (Kd.V_below (Kd.V_elderB (vS HO414.out) gb435 (Nat.le_of_eq hg.symm)) hb); have BK435 := Aside0.mk (hbox); have GW435 := Aside0.mk ((by rw [hg]; exact (below_size (hS HB.out)) : w.heap.size ≤ gb435)); have GE435 := Aside0.mk ((by rw [hg]; exact (below_size (hS HB.out)) : w.heap.size ≤ gb435)); replace HB := Aside0.mk (below_step (hS HB.out) hb); have NB402_435 := Aside0.mk ((by rw [hg]; exact Nat.ne_of_lt (blk_lt (bS BK402.out)) : gb402 ≠ gb435)); have NB435_402 := Aside0.mk ((by rw [hg]; exact Nat.ne_of_gt (blk_lt (bS BK402.out)) : gb435 ≠ gb402)); replace BK402 := Aside0.mk (blk_below (bS BK402.out) hb); have NB403_435 := Aside0.mk ((by rw [hg]; exact Nat.ne_of_lt (blk_lt (bS BK403.out)) : gb403 ≠ gb435)); have NB435_403 := Aside0.mk ((by rw [hg]; exact Nat.ne_of_gt (blk_lt (bS BK403.out)) : gb435 ≠ gb403)); replace BK403 := Aside0.mk (blk_below (bS BK403.out) hb); have NB416_435 := Aside0.mk ((by rw [hg]; exact Nat.ne_of_lt (blk_lt (bS BK416.out)) : gb416 ≠ gb435)); have NB435_416 := Aside0.mk ((by rw [hg]; exact Nat.ne_of_gt (blk_lt (bS BK416.out)) : gb435 ≠ gb416)); replace BK416 := Aside0.mk (blk_below (bS BK416.out) hb); clear hb hbox hg; have hnb118 := NB435_402.out; have hnc118 := NB402_435.out; have hnb119 := NB435_403.out; have hnc119 := NB403_435.out; have hnb120 := NB435_416.out; have hnc120 := NB416_435.out; have hcz121_0 : w117.cell? ⟨gb435, 0, none⟩ = some (.string (⟨#[]⟩ : ByteArray)) := (blk_cell BK435.out 0).trans rfl; have hcz121_1 : w117.cell? ⟨gb435, 1, none⟩ = some (.bool false) := (blk_cell BK435.out 1).trans rfl; have hcz121_2 : w117.cell? ⟨gb435, 2, none⟩ = some (.int .i64 0) := (blk_cell BK435.out 2).trans rfl; have hcz121_3 : w117.cell? ⟨gb435, 3, none⟩ = some (.int .i64 0) := (blk_cell BK435.out 3).trans rfl; have hcz121_4 : w117.cell? ⟨gb435, 4, none⟩ = some (.int .i64 0) := (blk_cell BK435.out 4).trans rfl; have hcz121_5 : w117.cell? ⟨gb435, 5, none⟩ = some (.string (⟨#[]⟩ : ByteArray)) := (blk_cell BK435.out 5).trans rfl; have hfz121_0 := blk_frozen BK435.out 0; have hfz121_1 := blk_frozen BK435.out 1; have hfz121_2 := blk_frozen BK435.out 2; have hfz121_3 := blk_frozen BK435.out 3; have hfz121_4 := blk_frozen BK435.out 4; have hfz121_5 := blk_frozen BK435.out 5)); go_upto_region 10 with (first | (go_at_call 26; (with_reducible refine (queue_Push.calls (fun k_ => k_ < w.heap.size) _ _ l0_0 a0_1 a1_0 a1_1 a1_2 a1_3 a1_4 a1_5 a2 t412 false _ ?side1 A47.out).mono ?_); (case side1 => exact Kd.V_mk HC0_0.out (Kd.F_below (Kd.C_F k33_heap HR0_0.out) (hS HB.out))); rintro e w107 ⟨v413, rfl, ho0, hb⟩; have HO414 := Aside0.mk (Kd.V_lower (Kd.V_mono (ok' := fun k_ => k_ ≠ gb402 ∧ k_ ≠ gb403) ho0 (fun k_ hk_ => ⟨Or.elim hk_ (fun hs_ => fun e_ => Nat.not_le.2 hs_ (by rw [e_]; exact GW402.out)) (fun hn_ => (Kd.freshB (bS BK402.out) k_ hn_)), Or.elim hk_ (fun hs_ => fun e_ => Nat.not_le.2 hs_ (by rw [e_]; exact GW403.out)) (fun hn_ => (Kd.freshB (bS BK403.out) k_ hn_))⟩)) (below_size (hS HB.out))); replace BK402 := Aside0.mk (blk_below (bS BK402.out) hb); replace BK403 := Aside0.mk (blk_below (bS BK403.out) hb); replace HB := Aside0.mk (below_step (hS HB.out) hb); (try clear hb); (try clear hb2); (try clear hk); (try clear hi); (try clear ho0)) | ((with_reducible refine gate_dst (N := 7) rfl ?_); (try (refine gate_guard (by rfl) ?_; dsimp only)); refine box_event ?hg (N := 7) ?hd (cs := #[.slice none 0 0, .bool false]) (t := 24) ?hr ?_; (case hd => rfl); (case hg => rfl); (case hr => first | (go_simp; done) | (go_simp; rfl)); intro gb416 hg w108 hbox hb; replace HO414 := Aside0.mk (Kd.V_below (Kd.V_elderB (vS HO414.out) gb416 (Nat.le_of_eq hg.symm)) hb); have BK416 := Aside0.mk (hbox); have GW416 := Aside0.mk ((by rw [hg]; exact (below_size (hS HB.out)) : w.heap.size ≤ gb416)); have GE416 := Aside0.mk ((by rw [hg]; exact (below_size (hS HB.out)) : w.heap.size ≤ gb416)); replace HB := Aside0.mk (below_step (hS HB.out) hb); have NB402_416 := Aside0.mk ((by rw [hg]; exact Nat.ne_of_lt (blk_lt (bS BK402.out)) : gb402 ≠ gb416)); have NB416_402 := Aside0.mk ((by rw [hg]; exact Nat.ne_of_gt (blk_lt (bS BK402.out)) : gb416 ≠ gb402)); replace BK402 := Aside0.mk (blk_below (bS BK402.out) hb); have NB403_416 := Aside0.mk ((by rw [hg]; exact Nat.ne_of_lt (blk_lt (bS BK403.out)) : gb403 ≠ gb416)); have NB416_403 := Aside0.mk ((by rw [hg]; exact Nat.ne_of_gt (blk_lt (bS BK403.out)) : gb416 ≠ gb403)); replace BK403 := Aside0.mk (blk_below (bS BK403.out) hb); clear hb hbox hg; obtain ⟨Ao109, co109, eo109⟩ := Kd.V_slice HO414.out; subst eo109; have hnb110 := NB416_402.out; have hnc110 := NB402_416.out; have hnb111 := NB416_403.out; have hnc111 := NB403_416.out; have hcz112_0 : w108.cell? ⟨gb416, 0, none⟩ = some (.slice none 0 0) := (blk_cell BK416.out 0).trans rfl; have hcz112_1 : w108.cell? ⟨gb416, 1, none⟩ = some (.bool false) := (blk_cell BK416.out 1).trans rfl; have hfz112_0 := blk_frozen BK416.out 0; have hfz112_1 := blk_frozen BK416.out 1) | (go_at_call 13; (with_reducible refine (queue_May.calls kj3 _ _ t412 false a2 true _ ?side1 ?side2 A48.out).mono ?_); (case side1 => refine (Kd.V_reads' (e := 33) (base := w.heap.size) (ok := fun k_ => ((k_ ≠ gb402 ∧ k_ ≠ gb403) ∧ k_ ≠ gb416)) (n := t412.length) (c := co109) ?_).2.2; exact (by (with_reducible repeat (first | apply Kd.V_alloc | apply Kd.V_drewN | apply Kd.V_drew)); exact (Kd.V_mono (vF (b := gb416) (Kd.V_mono HO414.out (fun k_ hk => (⟨hk, hk.2⟩ : _ ∧ k_ ≠ gb416))) (fun _ hk => hk.2)) (fun _ h_ => h_.1)))); (case side2 => exact (Kd.V_reads' HO414.out).2.1); rintro e w113 ⟨rfl, hb⟩; replace HO414 := Aside0.mk (Kd.V_below (by (with_reducible repeat (first | apply Kd.V_alloc | apply Kd.V_drewN | apply Kd.V_drew)); exact (Kd.V_mono (vF (b := gb416) (Kd.V_mono HO414.out (fun k_ hk => (⟨hk, hk.2⟩ : _ ∧ k_ ≠ gb416))) (fun _ hk => hk.2)) (fun _ h_ => h_.1))) hb); replace BK402 := Aside0.mk (blk_below (bF (BK402.out) NB402_416.out) hb); replace BK403 := Aside0.mk (blk_below (bF (BK403.out) NB403_416.out) hb); replace BK416 := Aside0.mk (blk_below (g := gb416) (o := .cells #[.slice Ao109 t412.length co109, .bool false] 24 (0, 0)) (bS (blk_put (bS (blk_put (bS BK416.out) 0 _ rfl)) 1 _ rfl)) hb); replace HB := Aside0.mk (below_step (hF HB.out GE416.out) hb); (try clear hb); (try clear hb2); (try clear hk); (try clear hi); have hcz114_0 : w113.cell? ⟨gb416, 0, none⟩ = some (.slice Ao109 t412.length co109) := (blk_cell BK416.out 0).trans rfl; have hcz114_1 : w113.cell? ⟨gb416, 1, none⟩ = some (.bool false) := (blk_cell BK416.out 1).trans rfl; have hfz114_0 := blk_frozen BK416.out 0; have hfz114_1 := blk_frozen BK416.out 1; have hcz115_0 : w113.cell? ⟨gb403, 0, none⟩ = some (.string a1_0) := (blk_cell BK403.out 0).trans rfl; have hcz115_1 : w113.cell? ⟨gb403, 1, none⟩ = some (.bool a1_1) := (blk_cell BK403.out 1).trans rfl; have hcz115_2 : w113.cell? ⟨gb403, 2, none⟩ = some (.int .i64 a1_2) := (blk_cell BK403.out 2).trans rfl; have hcz115_3 : w113.cell? ⟨gb403, 3, none⟩ = some (.int .i64 a1_3) := (blk_cell BK403.out 3).trans rfl; have hcz115_4 : w113.cell? ⟨gb403, 4, none⟩ = some (.int .i64 a1_4) := (blk_cell BK403.out 4).trans rfl; have hcz115_5 : w113.cell? ⟨gb403, 5, none⟩ = some (.string a1_5) := (blk_cell BK403.out 5).trans rfl; have hfz115_0 := blk_frozen BK403.out 0; have hfz115_1 := blk_frozen BK403.out 1; have hfz115_2 := blk_frozen BK403.out 2; have hfz115_3 := blk_frozen BK403.out 3; have hfz115_4 := blk_frozen BK403.out 4; have hfz115_5 := blk_frozen BK403.out 5) | (go_at_call 17; (with_reducible refine (queue_Find.calls _ _ t412 false a1_0 t428 t429 t430 t431 t432 t433 t434 _ ?side1 ?side2 A102.out).mono ?_); (case side1 => repeat (first | exact (Kd.V_reads' HO414.out).2.2 | (with_reducible refine Kd.C_alloc ?_ _) | (with_reducible refine Kd.C_drewN ?_ _) | (with_reducible refine Kd.C_drew ?_))); (case side2 => exact (Kd.V_reads' HO414.out).2.1); rintro e w116 ⟨rfl, hb⟩; replace HO414 := Aside0.mk (Kd.V_below (vS HO414.out) hb); replace BK402 := Aside0.mk (blk_below (bS BK402.out) hb); replace BK403 := Aside0.mk (blk_below (bS BK403.out) hb); replace BK416 := Aside0.mk (blk_below (bS BK416.out) hb); replace HB := Aside0.mk (below_step (hS HB.out) hb); (try clear hb); (try clear hb2); (try clear hk); (try clear hi)) | ((with_reducible refine gate_dst (N := 10) rfl ?_); (try (refine gate_guard (by rfl) ?_; dsimp only)); refine box_event ?hg (N := 10) ?hd (cs := #[.string (⟨#[]⟩ : ByteArray), .bool false, .int .i64 0, .int .i64 0, .int .i64 0, .string (⟨#[]⟩ : ByteArray)]) (t := 33) ?hr ?_; (case hd => rfl); (case hg => rfl); (case hr => first | (go_simp; done) | (go_simp; rfl)); intro gb435 hg w117 hbox hb; replace HO414 := Aside0.mk (Kd.V_below (Kd.V_elderB (vS HO414.out) gb435 (Nat.le_of_eq hg.symm)) hb); have BK435 := Aside0.mk (hbox); have GW435 := Aside0.mk ((by rw [hg]; exact (below_size (hS HB.out)) : w.heap.size ≤ gb435)); have GE435 := Aside0.mk ((by rw [hg]; exact (below_size (hS HB.out)) : w.heap.size ≤ gb435)); replace HB := Aside0.mk (below_step (hS HB.out) hb); have NB402_435 := Aside0.mk ((by rw [hg]; exact Nat.ne_of_lt (blk_lt (bS BK402.out)) : gb402 ≠ gb435)); have NB435_402 := Aside0.mk ((by rw [hg]; exact Nat.ne_of_gt (blk_lt (bS BK402.out)) : gb435 ≠ gb402)); replace BK402 := Aside0.mk (blk_below (bS BK402.out) hb); have NB403_435 := Aside0.mk ((by rw [hg]; exact Nat.ne_of_lt (blk_lt (bS BK403.out)) : gb403 ≠ gb435)); have NB435_403 := Aside0.mk ((by rw [hg]; exact Nat.ne_of_gt (blk_lt (bS BK403.out)) : gb435 ≠ gb403)); replace BK403 := Aside0.mk (blk_below (bS BK403.out) hb); have NB416_435 := Aside0.mk ((by rw [hg]; exact Nat.ne_of_lt (blk_lt (bS BK416.out)) : gb416 ≠ gb435)); have NB435_416 := Aside0.mk ((by rw [hg]; exact Nat.ne_of_gt (blk_lt (bS BK416.out)) : gb435 ≠ gb416)); replace BK416 := Aside0.mk (blk_below (bS BK416.out) hb); clear hb hbox hg; have hnb118 := NB435_402.out; have hnc118 := NB402_435.out; have hnb119 := NB435_403.out; have hnc119 := NB403_435.out; have hnb120 := NB435_416.out; have hnc120 := NB416_435.out; have hcz121_0 : w117.cell? ⟨gb435, 0, none⟩ = some (.string (⟨#[]⟩ : ByteArray)) := (blk_cell BK435.out 0).trans rfl; have hcz121_1 : w117.cell? ⟨gb435, 1, none⟩ = some (.bool false) := (blk_cell BK435.out 1).trans rfl; have hcz121_2 : w117.cell? ⟨gb435, 2, none⟩ = some (.int .i64 0) := (blk_cell BK435.out 2).trans rfl; have hcz121_3 : w117.cell? ⟨gb435, 3, none⟩ = some (.int .i64 0) := (blk_cell BK435.out 3).trans rfl; have hcz121_4 : w117.cell? ⟨gb435, 4, none⟩ = some (.int .i64 0) := (blk_cell BK435.out 4).trans rfl; have hcz121_5 : w117.cell? ⟨gb435, 5, none⟩ = some (.string (⟨#[]⟩ : ByteArray)) := (blk_cell BK435.out 5).trans rfl; have hfz121_0 := blk_frozen BK435.out 0; have hfz121_1 := blk_frozen BK435.out 1; have hfz121_2 := blk_frozen BK435.out 2; have hfz121_3 := blk_frozen BK435.out 3; have hfz121_4 := blk_frozen BK435.out 4; have hfz121_5 := blk_frozen BK435.out 5)))
            (try simp only [Act.put, List.setIfInBounds_toArray, List.set_cons_zero, List.set_cons_succ])
            go_cut [117] (fun v117 wc => ∃ (kq : Nat) (x117_102 : Bool), v117 = .bool x117_102 ∧ Aside0 (rollcalllaw17_QueueMay.j1 kq x117_102 l0_0 a0_1 a1_0 a1_1 a1_2 a1_3 a1_4 a1_5 t412 false = some r) ∧ Aside0 (kq ≤ kj3) ∧ Aside0 (Kd.V k33 33 wc w.heap.size (fun k_ => k_ ≠ gb402 ∧ k_ ≠ gb403 ∧ k_ ≠ gb416 ∧ k_ ≠ gb435) (.slice Ao109 t412.length co109) t412) ∧ Aside0 (wc.heap[gb402]? = some (.cells #[(.slice A0_0 l0_0.length c0_0), .bool a0_1] 24 (0, 0))) ∧ Aside0 (wc.heap[gb403]? = some (.cells #[.string a1_0, .bool a1_1, .int .i64 a1_2, .int .i64 a1_3, .int .i64 a1_4, .string a1_5] 33 (0, 0))) ∧ Aside0 (wc.heap[gb416]? = some (.cells #[(.slice Ao109 t412.length co109), .bool false] 24 (0, 0))) ∧ Aside0 (wc.heap[gb435]? = some (.cells #[.string t428, .bool t429, .int .i64 t430, .int .i64 t431, .int .i64 t432, .string t433] 33 (0, 0))) ∧ Aside0 (Below w.heap.size w wc))
            case first =>
              have H := HC103.out
              clear HC103
              by_cases c122 : t434 = true
              · subst c122
                have H1 : (if (!(t428.toList == a1_0.toList) || (!(t429 == a1_1) || ((!(t430 == a1_2) || (!(t431 == a1_3) || (!(t432 == a1_4) || (!(t433.toList == a1_5.toList)))))))) = true then (rollcalllaw17_QueueMay.j1 kj3 true l0_0 a0_1 a1_0 a1_1 a1_2 a1_3 a1_4 a1_5 t412 false) else (if a0_1 = true then (rollcalllaw17_QueueMay.j1 kj3 true l0_0 a0_1 a1_0 a1_1 a1_2 a1_3 a1_4 a1_5 t412 false) else (if (t412.length : Int) < (l0_0.length : Int) then (rollcalllaw17_QueueMay.j1 kj3 true l0_0 a0_1 a1_0 a1_1 a1_2 a1_3 a1_4 a1_5 t412 false) else (rollcalllaw17_QueueMay.j1 kj3 (decide ((t412.length : Int) > (wrap64 ((l0_0.length : Int) + 1)))) l0_0 a0_1 a1_0 a1_1 a1_2 a1_3 a1_4 a1_5 t412 false)))) = some r := by rw [if_pos rfl] at H; exact H
                clear H
                have H := H1
                clear H1
                by_cases c123 : (!(t428.toList == a1_0.toList) || (!(t429 == a1_1) || ((!(t430 == a1_2) || (!(t431 == a1_3) || (!(t432 == a1_4) || (!(t433.toList == a1_5.toList)))))))) = true
                · rw [if_pos c123] at H
                  have c123b0 : (!(t428.toList == a1_0.toList) || (!(t429 == a1_1) || ((!(t430 == a1_2) || (!(t431 == a1_3) || (!(t432 == a1_4) || (!(t433.toList == a1_5.toList)))))))) = true := c123
                  clear c123
                  (first | rw [c123b0] | (simp only [i64_w, i32_w]; rw [c123b0]) | skip)
                  have H' := Aside0.mk H
                  clear H
                  have hnb124 := NB435_402.out
                  have hnc124 := NB402_435.out
                  have hnb125 := NB435_403.out
                  have hnc125 := NB403_435.out
                  have hnb126 := NB435_416.out
                  have hnc126 := NB416_435.out
                  have hcz127_0 : w117.cell? ⟨gb435, 0, none⟩ = some (.string (⟨#[]⟩ : ByteArray)) := (blk_cell BK435.out 0).trans rfl
                  have hcz127_1 : w117.cell? ⟨gb435, 1, none⟩ = some (.bool false) := (blk_cell BK435.out 1).trans rfl
                  have hcz127_2 : w117.cell? ⟨gb435, 2, none⟩ = some (.int .i64 0) := (blk_cell BK435.out 2).trans rfl
                  have hcz127_3 : w117.cell? ⟨gb435, 3, none⟩ = some (.int .i64 0) := (blk_cell BK435.out 3).trans rfl
                  have hcz127_4 : w117.cell? ⟨gb435, 4, none⟩ = some (.int .i64 0) := (blk_cell BK435.out 4).trans rfl
                  have hcz127_5 : w117.cell? ⟨gb435, 5, none⟩ = some (.string (⟨#[]⟩ : ByteArray)) := (blk_cell BK435.out 5).trans rfl
                  have hfz127_0 := blk_frozen BK435.out 0
                  have hfz127_1 := blk_frozen BK435.out 1
                  have hfz127_2 := blk_frozen BK435.out 2
                  have hfz127_3 := blk_frozen BK435.out 3
                  have hfz127_4 := blk_frozen BK435.out 4
                  have hfz127_5 := blk_frozen BK435.out 5
                  have hnb128 := NB403_402.out
                  have hnc128 := NB402_403.out
                  have hnb129 := NB403_416.out
                  have hnc129 := NB416_403.out
                  have hcz130_0 : w117.cell? ⟨gb403, 0, none⟩ = some (.string a1_0) := (blk_cell BK403.out 0).trans rfl
                  have hcz130_1 : w117.cell? ⟨gb403, 1, none⟩ = some (.bool a1_1) := (blk_cell BK403.out 1).trans rfl
                  have hcz130_2 : w117.cell? ⟨gb403, 2, none⟩ = some (.int .i64 a1_2) := (blk_cell BK403.out 2).trans rfl
                  have hcz130_3 : w117.cell? ⟨gb403, 3, none⟩ = some (.int .i64 a1_3) := (blk_cell BK403.out 3).trans rfl
                  have hcz130_4 : w117.cell? ⟨gb403, 4, none⟩ = some (.int .i64 a1_4) := (blk_cell BK403.out 4).trans rfl
                  have hcz130_5 : w117.cell? ⟨gb403, 5, none⟩ = some (.string a1_5) := (blk_cell BK403.out 5).trans rfl
                  have hfz130_0 := blk_frozen BK403.out 0
                  have hfz130_1 := blk_frozen BK403.out 1
                  have hfz130_2 := blk_frozen BK403.out 2
                  have hfz130_3 := blk_frozen BK403.out 3
                  have hfz130_4 := blk_frozen BK403.out 4
                  have hfz130_5 := blk_frozen BK403.out 5
                  go_wp2
                  repeat (go_quiet (fail); try go_wp2)
                  go_meet
                  case rel => exact ⟨_, (true), (by first | rfl | (simp; done) | (simp [*]; done)), H', ⟨by have := HJ3.out; first | omega | exact Nat.le_refl _⟩, ⟨by (with_reducible repeat (first | apply Kd.V_alloc | apply Kd.V_drewN | apply Kd.V_drew)); exact Kd.V_mono (vF (b := gb435) (Kd.V_mono HO414.out (fun k_ hk => (⟨hk, hk.2⟩ : _ ∧ k_ ≠ gb435))) (fun _ hk => hk.2)) (fun _ hk => ⟨hk.1.1.1.1, ⟨hk.1.1.1.2, ⟨hk.1.1.2, hk.1.2⟩⟩⟩)⟩, ⟨bF (BK402.out) NB402_435.out⟩, ⟨bF (BK403.out) NB403_435.out⟩, ⟨bF (BK416.out) NB416_435.out⟩, ⟨by refine bS ?_; refine blk_put (cs := #[.string t428, .bool t429, .int .i64 t430, .int .i64 t431, .int .i64 t432, .string (⟨#[]⟩ : ByteArray)]) ?_ 5 _ rfl; refine bS ?_; refine blk_put (cs := #[.string t428, .bool t429, .int .i64 t430, .int .i64 t431, .int .i64 0, .string (⟨#[]⟩ : ByteArray)]) ?_ 4 _ rfl; refine bS ?_; refine blk_put (cs := #[.string t428, .bool t429, .int .i64 t430, .int .i64 0, .int .i64 0, .string (⟨#[]⟩ : ByteArray)]) ?_ 3 _ rfl; refine bS ?_; refine blk_put (cs := #[.string t428, .bool t429, .int .i64 0, .int .i64 0, .int .i64 0, .string (⟨#[]⟩ : ByteArray)]) ?_ 2 _ rfl; refine bS ?_; refine blk_put (cs := #[.string t428, .bool false, .int .i64 0, .int .i64 0, .int .i64 0, .string (⟨#[]⟩ : ByteArray)]) ?_ 1 _ rfl; refine bS ?_; refine blk_put (cs := #[.string (⟨#[]⟩ : ByteArray), .bool false, .int .i64 0, .int .i64 0, .int .i64 0, .string (⟨#[]⟩ : ByteArray)]) ?_ 0 _ rfl; refine bS ?_; exact BK435.out⟩, ⟨by repeat (first | (with_reducible first | exact HB.out | apply below_alloc | apply pw_below_drewN | apply below_drew1 | refine below_set ?_ GE402.out | refine below_set ?_ GE403.out | refine below_set ?_ GE416.out | refine below_set ?_ GE435.out) | exact HB.out)⟩⟩
                · rw [if_neg c123] at H
                  have c123b0 : (!(t428.toList == a1_0.toList) || (!(t429 == a1_1) || ((!(t430 == a1_2) || (!(t431 == a1_3) || (!(t432 == a1_4) || (!(t433.toList == a1_5.toList)))))))) = false := by simpa using c123
                  clear c123
                  (first | rw [c123b0] | (simp only [i64_w, i32_w]; rw [c123b0]) | skip)
                  by_cases c131 : a0_1 = true
                  · subst c131
                    have H1 : (rollcalllaw17_QueueMay.j1 kj3 true l0_0 true a1_0 a1_1 a1_2 a1_3 a1_4 a1_5 t412 false) = some r := by rw [if_pos rfl] at H; exact H
                    clear H
                    have H := H1
                    clear H1
                    have H' := Aside0.mk H
                    clear H
                    have hnb132 := NB435_402.out
                    have hnc132 := NB402_435.out
                    have hnb133 := NB435_403.out
                    have hnc133 := NB403_435.out
                    have hnb134 := NB435_416.out
                    have hnc134 := NB416_435.out
                    have hcz135_0 : w117.cell? ⟨gb435, 0, none⟩ = some (.string (⟨#[]⟩ : ByteArray)) := (blk_cell BK435.out 0).trans rfl
                    have hcz135_1 : w117.cell? ⟨gb435, 1, none⟩ = some (.bool false) := (blk_cell BK435.out 1).trans rfl
                    have hcz135_2 : w117.cell? ⟨gb435, 2, none⟩ = some (.int .i64 0) := (blk_cell BK435.out 2).trans rfl
                    have hcz135_3 : w117.cell? ⟨gb435, 3, none⟩ = some (.int .i64 0) := (blk_cell BK435.out 3).trans rfl
                    have hcz135_4 : w117.cell? ⟨gb435, 4, none⟩ = some (.int .i64 0) := (blk_cell BK435.out 4).trans rfl
                    have hcz135_5 : w117.cell? ⟨gb435, 5, none⟩ = some (.string (⟨#[]⟩ : ByteArray)) := (blk_cell BK435.out 5).trans rfl
                    have hfz135_0 := blk_frozen BK435.out 0
                    have hfz135_1 := blk_frozen BK435.out 1
                    have hfz135_2 := blk_frozen BK435.out 2
                    have hfz135_3 := blk_frozen BK435.out 3
                    have hfz135_4 := blk_frozen BK435.out 4
                    have hfz135_5 := blk_frozen BK435.out 5
                    have hnb136 := NB403_402.out
                    have hnc136 := NB402_403.out
                    have hnb137 := NB403_416.out
                    have hnc137 := NB416_403.out
                    have hcz138_0 : w117.cell? ⟨gb403, 0, none⟩ = some (.string a1_0) := (blk_cell BK403.out 0).trans rfl
                    have hcz138_1 : w117.cell? ⟨gb403, 1, none⟩ = some (.bool a1_1) := (blk_cell BK403.out 1).trans rfl
                    have hcz138_2 : w117.cell? ⟨gb403, 2, none⟩ = some (.int .i64 a1_2) := (blk_cell BK403.out 2).trans rfl
                    have hcz138_3 : w117.cell? ⟨gb403, 3, none⟩ = some (.int .i64 a1_3) := (blk_cell BK403.out 3).trans rfl
                    have hcz138_4 : w117.cell? ⟨gb403, 4, none⟩ = some (.int .i64 a1_4) := (blk_cell BK403.out 4).trans rfl
                    have hcz138_5 : w117.cell? ⟨gb403, 5, none⟩ = some (.string a1_5) := (blk_cell BK403.out 5).trans rfl
                    have hfz138_0 := blk_frozen BK403.out 0
                    have hfz138_1 := blk_frozen BK403.out 1
                    have hfz138_2 := blk_frozen BK403.out 2
                    have hfz138_3 := blk_frozen BK403.out 3
                    have hfz138_4 := blk_frozen BK403.out 4
                    have hfz138_5 := blk_frozen BK403.out 5
                    have hnb139 := NB402_416.out
                    have hnc139 := NB416_402.out
                    have hcz140_0 : w117.cell? ⟨gb402, 0, none⟩ = some (.slice A0_0 l0_0.length c0_0) := (blk_cell BK402.out 0).trans rfl
                    have hcz140_1 : w117.cell? ⟨gb402, 1, none⟩ = some (.bool true) := (blk_cell BK402.out 1).trans rfl
                    have hfz140_0 := blk_frozen BK402.out 0
                    have hfz140_1 := blk_frozen BK402.out 1
                    go_wp2
                    repeat (go_quiet (fail); try go_wp2)
                    go_meet
                    case rel => exact ⟨_, (true), (by first | rfl | (simp; done) | (simp [*]; done)), H', ⟨by have := HJ3.out; first | omega | exact Nat.le_refl _⟩, ⟨by (with_reducible repeat (first | apply Kd.V_alloc | apply Kd.V_drewN | apply Kd.V_drew)); exact Kd.V_mono (vF (b := gb435) (Kd.V_mono HO414.out (fun k_ hk => (⟨hk, hk.2⟩ : _ ∧ k_ ≠ gb435))) (fun _ hk => hk.2)) (fun _ hk => ⟨hk.1.1.1.1, ⟨hk.1.1.1.2, ⟨hk.1.1.2, hk.1.2⟩⟩⟩)⟩, ⟨bF (BK402.out) NB402_435.out⟩, ⟨bF (BK403.out) NB403_435.out⟩, ⟨bF (BK416.out) NB416_435.out⟩, ⟨by refine bS ?_; refine blk_put (cs := #[.string t428, .bool t429, .int .i64 t430, .int .i64 t431, .int .i64 t432, .string (⟨#[]⟩ : ByteArray)]) ?_ 5 _ rfl; refine bS ?_; refine blk_put (cs := #[.string t428, .bool t429, .int .i64 t430, .int .i64 t431, .int .i64 0, .string (⟨#[]⟩ : ByteArray)]) ?_ 4 _ rfl; refine bS ?_; refine blk_put (cs := #[.string t428, .bool t429, .int .i64 t430, .int .i64 0, .int .i64 0, .string (⟨#[]⟩ : ByteArray)]) ?_ 3 _ rfl; refine bS ?_; refine blk_put (cs := #[.string t428, .bool t429, .int .i64 0, .int .i64 0, .int .i64 0, .string (⟨#[]⟩ : ByteArray)]) ?_ 2 _ rfl; refine bS ?_; refine blk_put (cs := #[.string t428, .bool false, .int .i64 0, .int .i64 0, .int .i64 0, .string (⟨#[]⟩ : ByteArray)]) ?_ 1 _ rfl; refine bS ?_; refine blk_put (cs := #[.string (⟨#[]⟩ : ByteArray), .bool false, .int .i64 0, .int .i64 0, .int .i64 0, .string (⟨#[]⟩ : ByteArray)]) ?_ 0 _ rfl; refine bS ?_; exact BK435.out⟩, ⟨by repeat (first | (with_reducible first | exact HB.out | apply below_alloc | apply pw_below_drewN | apply below_drew1 | refine below_set ?_ GE402.out | refine below_set ?_ GE403.out | refine below_set ?_ GE416.out | refine below_set ?_ GE435.out) | exact HB.out)⟩⟩
                  · replace c131 := Bool.eq_false_iff.mpr c131
                    subst c131
                    have H1 : (if (t412.length : Int) < (l0_0.length : Int) then (rollcalllaw17_QueueMay.j1 kj3 true l0_0 false a1_0 a1_1 a1_2 a1_3 a1_4 a1_5 t412 false) else (rollcalllaw17_QueueMay.j1 kj3 (decide ((t412.length : Int) > (wrap64 ((l0_0.length : Int) + 1)))) l0_0 false a1_0 a1_1 a1_2 a1_3 a1_4 a1_5 t412 false)) = some r := by rw [if_neg (show ¬ (false = true) by decide)] at H; exact H
                    clear H
                    have H := H1
                    clear H1
                    by_cases c141 : (t412.length : Int) < (l0_0.length : Int)
                    · rw [if_pos c141] at H
                      have c141b0 : decide ((t412.length : Int) < (l0_0.length : Int)) = true := decide_eq_true c141
                      have c141b1 : decide (t412.length < l0_0.length) = true := decide_eq_true (Int.ofNat_lt.mp c141)
                      clear c141
                      have H' := Aside0.mk H
                      clear H
                      have hnb142 := NB435_402.out
                      have hnc142 := NB402_435.out
                      have hnb143 := NB435_403.out
                      have hnc143 := NB403_435.out
                      have hnb144 := NB435_416.out
                      have hnc144 := NB416_435.out
                      have hcz145_0 : w117.cell? ⟨gb435, 0, none⟩ = some (.string (⟨#[]⟩ : ByteArray)) := (blk_cell BK435.out 0).trans rfl
                      have hcz145_1 : w117.cell? ⟨gb435, 1, none⟩ = some (.bool false) := (blk_cell BK435.out 1).trans rfl
                      have hcz145_2 : w117.cell? ⟨gb435, 2, none⟩ = some (.int .i64 0) := (blk_cell BK435.out 2).trans rfl
                      have hcz145_3 : w117.cell? ⟨gb435, 3, none⟩ = some (.int .i64 0) := (blk_cell BK435.out 3).trans rfl
                      have hcz145_4 : w117.cell? ⟨gb435, 4, none⟩ = some (.int .i64 0) := (blk_cell BK435.out 4).trans rfl
                      have hcz145_5 : w117.cell? ⟨gb435, 5, none⟩ = some (.string (⟨#[]⟩ : ByteArray)) := (blk_cell BK435.out 5).trans rfl
                      have hfz145_0 := blk_frozen BK435.out 0
                      have hfz145_1 := blk_frozen BK435.out 1
                      have hfz145_2 := blk_frozen BK435.out 2
                      have hfz145_3 := blk_frozen BK435.out 3
                      have hfz145_4 := blk_frozen BK435.out 4
                      have hfz145_5 := blk_frozen BK435.out 5
                      have hnb146 := NB403_402.out
                      have hnc146 := NB402_403.out
                      have hnb147 := NB403_416.out
                      have hnc147 := NB416_403.out
                      have hcz148_0 : w117.cell? ⟨gb403, 0, none⟩ = some (.string a1_0) := (blk_cell BK403.out 0).trans rfl
                      have hcz148_1 : w117.cell? ⟨gb403, 1, none⟩ = some (.bool a1_1) := (blk_cell BK403.out 1).trans rfl
                      have hcz148_2 : w117.cell? ⟨gb403, 2, none⟩ = some (.int .i64 a1_2) := (blk_cell BK403.out 2).trans rfl
                      have hcz148_3 : w117.cell? ⟨gb403, 3, none⟩ = some (.int .i64 a1_3) := (blk_cell BK403.out 3).trans rfl
                      have hcz148_4 : w117.cell? ⟨gb403, 4, none⟩ = some (.int .i64 a1_4) := (blk_cell BK403.out 4).trans rfl
                      have hcz148_5 : w117.cell? ⟨gb403, 5, none⟩ = some (.string a1_5) := (blk_cell BK403.out 5).trans rfl
                      have hfz148_0 := blk_frozen BK403.out 0
                      have hfz148_1 := blk_frozen BK403.out 1
                      have hfz148_2 := blk_frozen BK403.out 2
                      have hfz148_3 := blk_frozen BK403.out 3
                      have hfz148_4 := blk_frozen BK403.out 4
                      have hfz148_5 := blk_frozen BK403.out 5
                      have hnb149 := NB402_416.out
                      have hnc149 := NB416_402.out
                      have hcz150_0 : w117.cell? ⟨gb402, 0, none⟩ = some (.slice A0_0 l0_0.length c0_0) := (blk_cell BK402.out 0).trans rfl
                      have hcz150_1 : w117.cell? ⟨gb402, 1, none⟩ = some (.bool false) := (blk_cell BK402.out 1).trans rfl
                      have hfz150_0 := blk_frozen BK402.out 0
                      have hfz150_1 := blk_frozen BK402.out 1
                      have hcz151_0 : w117.cell? ⟨gb416, 0, none⟩ = some (.slice Ao109 t412.length co109) := (blk_cell BK416.out 0).trans rfl
                      have hcz151_1 : w117.cell? ⟨gb416, 1, none⟩ = some (.bool false) := (blk_cell BK416.out 1).trans rfl
                      have hfz151_0 := blk_frozen BK416.out 0
                      have hfz151_1 := blk_frozen BK416.out 1
                      go_wp2
                      repeat (go_quiet (fail); try go_wp2)
                      go_meet
                      case rel => exact ⟨_, (true), (by first | rfl | (simp; done) | (simp [*]; done)), H', ⟨by have := HJ3.out; first | omega | exact Nat.le_refl _⟩, ⟨by (with_reducible repeat (first | apply Kd.V_alloc | apply Kd.V_drewN | apply Kd.V_drew)); exact Kd.V_mono (vF (b := gb435) (Kd.V_mono HO414.out (fun k_ hk => (⟨hk, hk.2⟩ : _ ∧ k_ ≠ gb435))) (fun _ hk => hk.2)) (fun _ hk => ⟨hk.1.1.1.1, ⟨hk.1.1.1.2, ⟨hk.1.1.2, hk.1.2⟩⟩⟩)⟩, ⟨bF (BK402.out) NB402_435.out⟩, ⟨bF (BK403.out) NB403_435.out⟩, ⟨bF (BK416.out) NB416_435.out⟩, ⟨by refine bS ?_; refine blk_put (cs := #[.string t428, .bool t429, .int .i64 t430, .int .i64 t431, .int .i64 t432, .string (⟨#[]⟩ : ByteArray)]) ?_ 5 _ rfl; refine bS ?_; refine blk_put (cs := #[.string t428, .bool t429, .int .i64 t430, .int .i64 t431, .int .i64 0, .string (⟨#[]⟩ : ByteArray)]) ?_ 4 _ rfl; refine bS ?_; refine blk_put (cs := #[.string t428, .bool t429, .int .i64 t430, .int .i64 0, .int .i64 0, .string (⟨#[]⟩ : ByteArray)]) ?_ 3 _ rfl; refine bS ?_; refine blk_put (cs := #[.string t428, .bool t429, .int .i64 0, .int .i64 0, .int .i64 0, .string (⟨#[]⟩ : ByteArray)]) ?_ 2 _ rfl; refine bS ?_; refine blk_put (cs := #[.string t428, .bool false, .int .i64 0, .int .i64 0, .int .i64 0, .string (⟨#[]⟩ : ByteArray)]) ?_ 1 _ rfl; refine bS ?_; refine blk_put (cs := #[.string (⟨#[]⟩ : ByteArray), .bool false, .int .i64 0, .int .i64 0, .int .i64 0, .string (⟨#[]⟩ : ByteArray)]) ?_ 0 _ rfl; refine bS ?_; exact BK435.out⟩, ⟨by repeat (first | (with_reducible first | exact HB.out | apply below_alloc | apply pw_below_drewN | apply below_drew1 | refine below_set ?_ GE402.out | refine below_set ?_ GE403.out | refine below_set ?_ GE416.out | refine below_set ?_ GE435.out) | exact HB.out)⟩⟩
                    · rw [if_neg c141] at H
                      have c141b0 : decide ((t412.length : Int) < (l0_0.length : Int)) = false := decide_eq_false c141
                      have c141b1 : decide (t412.length < l0_0.length) = false := decide_eq_false (fun h => c141 (Int.ofNat_lt.mpr h))
                      clear c141
                      have H' := Aside0.mk H
                      clear H
                      have hnb152 := NB435_402.out
                      have hnc152 := NB402_435.out
                      have hnb153 := NB435_403.out
                      have hnc153 := NB403_435.out
                      have hnb154 := NB435_416.out
                      have hnc154 := NB416_435.out
                      have hcz155_0 : w117.cell? ⟨gb435, 0, none⟩ = some (.string (⟨#[]⟩ : ByteArray)) := (blk_cell BK435.out 0).trans rfl
                      have hcz155_1 : w117.cell? ⟨gb435, 1, none⟩ = some (.bool false) := (blk_cell BK435.out 1).trans rfl
                      have hcz155_2 : w117.cell? ⟨gb435, 2, none⟩ = some (.int .i64 0) := (blk_cell BK435.out 2).trans rfl
                      have hcz155_3 : w117.cell? ⟨gb435, 3, none⟩ = some (.int .i64 0) := (blk_cell BK435.out 3).trans rfl
                      have hcz155_4 : w117.cell? ⟨gb435, 4, none⟩ = some (.int .i64 0) := (blk_cell BK435.out 4).trans rfl
                      have hcz155_5 : w117.cell? ⟨gb435, 5, none⟩ = some (.string (⟨#[]⟩ : ByteArray)) := (blk_cell BK435.out 5).trans rfl
                      have hfz155_0 := blk_frozen BK435.out 0
                      have hfz155_1 := blk_frozen BK435.out 1
                      have hfz155_2 := blk_frozen BK435.out 2
                      have hfz155_3 := blk_frozen BK435.out 3
                      have hfz155_4 := blk_frozen BK435.out 4
                      have hfz155_5 := blk_frozen BK435.out 5
                      have hnb156 := NB403_402.out
                      have hnc156 := NB402_403.out
                      have hnb157 := NB403_416.out
                      have hnc157 := NB416_403.out
                      have hcz158_0 : w117.cell? ⟨gb403, 0, none⟩ = some (.string a1_0) := (blk_cell BK403.out 0).trans rfl
                      have hcz158_1 : w117.cell? ⟨gb403, 1, none⟩ = some (.bool a1_1) := (blk_cell BK403.out 1).trans rfl
                      have hcz158_2 : w117.cell? ⟨gb403, 2, none⟩ = some (.int .i64 a1_2) := (blk_cell BK403.out 2).trans rfl
                      have hcz158_3 : w117.cell? ⟨gb403, 3, none⟩ = some (.int .i64 a1_3) := (blk_cell BK403.out 3).trans rfl
                      have hcz158_4 : w117.cell? ⟨gb403, 4, none⟩ = some (.int .i64 a1_4) := (blk_cell BK403.out 4).trans rfl
                      have hcz158_5 : w117.cell? ⟨gb403, 5, none⟩ = some (.string a1_5) := (blk_cell BK403.out 5).trans rfl
                      have hfz158_0 := blk_frozen BK403.out 0
                      have hfz158_1 := blk_frozen BK403.out 1
                      have hfz158_2 := blk_frozen BK403.out 2
                      have hfz158_3 := blk_frozen BK403.out 3
                      have hfz158_4 := blk_frozen BK403.out 4
                      have hfz158_5 := blk_frozen BK403.out 5
                      have hnb159 := NB402_416.out
                      have hnc159 := NB416_402.out
                      have hcz160_0 : w117.cell? ⟨gb402, 0, none⟩ = some (.slice A0_0 l0_0.length c0_0) := (blk_cell BK402.out 0).trans rfl
                      have hcz160_1 : w117.cell? ⟨gb402, 1, none⟩ = some (.bool false) := (blk_cell BK402.out 1).trans rfl
                      have hfz160_0 := blk_frozen BK402.out 0
                      have hfz160_1 := blk_frozen BK402.out 1
                      have hcz161_0 : w117.cell? ⟨gb416, 0, none⟩ = some (.slice Ao109 t412.length co109) := (blk_cell BK416.out 0).trans rfl
                      have hcz161_1 : w117.cell? ⟨gb416, 1, none⟩ = some (.bool false) := (blk_cell BK416.out 1).trans rfl
                      have hfz161_0 := blk_frozen BK416.out 0
                      have hfz161_1 := blk_frozen BK416.out 1
                      go_wp2
                      repeat (go_quiet (fail); try go_wp2)
                      go_meet
                      case rel => exact ⟨_, (decide ((t412.length : Int) > (wrap64 ((l0_0.length : Int) + 1)))), (by first | rfl | (simp; done) | (simp [*]; done)), H', ⟨by have := HJ3.out; first | omega | exact Nat.le_refl _⟩, ⟨by (with_reducible repeat (first | apply Kd.V_alloc | apply Kd.V_drewN | apply Kd.V_drew)); exact Kd.V_mono (vF (b := gb435) (Kd.V_mono HO414.out (fun k_ hk => (⟨hk, hk.2⟩ : _ ∧ k_ ≠ gb435))) (fun _ hk => hk.2)) (fun _ hk => ⟨hk.1.1.1.1, ⟨hk.1.1.1.2, ⟨hk.1.1.2, hk.1.2⟩⟩⟩)⟩, ⟨bF (BK402.out) NB402_435.out⟩, ⟨bF (BK403.out) NB403_435.out⟩, ⟨bF (BK416.out) NB416_435.out⟩, ⟨by refine bS ?_; refine blk_put (cs := #[.string t428, .bool t429, .int .i64 t430, .int .i64 t431, .int .i64 t432, .string (⟨#[]⟩ : ByteArray)]) ?_ 5 _ rfl; refine bS ?_; refine blk_put (cs := #[.string t428, .bool t429, .int .i64 t430, .int .i64 t431, .int .i64 0, .string (⟨#[]⟩ : ByteArray)]) ?_ 4 _ rfl; refine bS ?_; refine blk_put (cs := #[.string t428, .bool t429, .int .i64 t430, .int .i64 0, .int .i64 0, .string (⟨#[]⟩ : ByteArray)]) ?_ 3 _ rfl; refine bS ?_; refine blk_put (cs := #[.string t428, .bool t429, .int .i64 0, .int .i64 0, .int .i64 0, .string (⟨#[]⟩ : ByteArray)]) ?_ 2 _ rfl; refine bS ?_; refine blk_put (cs := #[.string t428, .bool false, .int .i64 0, .int .i64 0, .int .i64 0, .string (⟨#[]⟩ : ByteArray)]) ?_ 1 _ rfl; refine bS ?_; refine blk_put (cs := #[.string (⟨#[]⟩ : ByteArray), .bool false, .int .i64 0, .int .i64 0, .int .i64 0, .string (⟨#[]⟩ : ByteArray)]) ?_ 0 _ rfl; refine bS ?_; exact BK435.out⟩, ⟨by repeat (first | (with_reducible first | exact HB.out | apply below_alloc | apply pw_below_drewN | apply below_drew1 | refine below_set ?_ GE402.out | refine below_set ?_ GE403.out | refine below_set ?_ GE416.out | refine below_set ?_ GE435.out) | exact HB.out)⟩⟩
              · replace c122 := Bool.eq_false_iff.mpr c122
                subst c122
                have H1 : (rollcalllaw17_QueueMay.j1 kj3 true l0_0 a0_1 a1_0 a1_1 a1_2 a1_3 a1_4 a1_5 t412 false) = some r := by rw [if_neg (show ¬ (false = true) by decide)] at H; exact H
                clear H
                have H := H1
                clear H1
                have H' := Aside0.mk H
                clear H
                go_wp2
                repeat (go_quiet (fail); try go_wp2)
                go_meet
                case rel => exact ⟨_, (true), (by first | rfl | (simp; done) | (simp [*]; done)), H', ⟨by have := HJ3.out; first | omega | exact Nat.le_refl _⟩, ⟨by (with_reducible repeat (first | apply Kd.V_alloc | apply Kd.V_drewN | apply Kd.V_drew)); exact Kd.V_mono (vF (b := gb435) (Kd.V_mono HO414.out (fun k_ hk => (⟨hk, hk.2⟩ : _ ∧ k_ ≠ gb435))) (fun _ hk => hk.2)) (fun _ hk => ⟨hk.1.1.1.1, ⟨hk.1.1.1.2, ⟨hk.1.1.2, hk.1.2⟩⟩⟩)⟩, ⟨bF (BK402.out) NB402_435.out⟩, ⟨bF (BK403.out) NB403_435.out⟩, ⟨bF (BK416.out) NB416_435.out⟩, ⟨by refine bS ?_; refine blk_put (cs := #[.string t428, .bool t429, .int .i64 t430, .int .i64 t431, .int .i64 t432, .string (⟨#[]⟩ : ByteArray)]) ?_ 5 _ rfl; refine bS ?_; refine blk_put (cs := #[.string t428, .bool t429, .int .i64 t430, .int .i64 t431, .int .i64 0, .string (⟨#[]⟩ : ByteArray)]) ?_ 4 _ rfl; refine bS ?_; refine blk_put (cs := #[.string t428, .bool t429, .int .i64 t430, .int .i64 0, .int .i64 0, .string (⟨#[]⟩ : ByteArray)]) ?_ 3 _ rfl; refine bS ?_; refine blk_put (cs := #[.string t428, .bool t429, .int .i64 0, .int .i64 0, .int .i64 0, .string (⟨#[]⟩ : ByteArray)]) ?_ 2 _ rfl; refine bS ?_; refine blk_put (cs := #[.string t428, .bool false, .int .i64 0, .int .i64 0, .int .i64 0, .string (⟨#[]⟩ : ByteArray)]) ?_ 1 _ rfl; refine bS ?_; refine blk_put (cs := #[.string (⟨#[]⟩ : ByteArray), .bool false, .int .i64 0, .int .i64 0, .int .i64 0, .string (⟨#[]⟩ : ByteArray)]) ?_ 0 _ rfl; refine bS ?_; exact BK435.out⟩, ⟨by repeat (first | (with_reducible first | exact HB.out | apply below_alloc | apply pw_below_drewN | apply below_drew1 | refine below_set ?_ GE402.out | refine below_set ?_ GE403.out | refine below_set ?_ GE416.out | refine below_set ?_ GE435.out) | exact HB.out)⟩⟩
            case rest =>
              clear HC103
              try clear c1
              try clear c2
              try clear p2
              try clear c3
              try clear c4
              try clear c5
              try clear c6
              try clear p6
              try clear c7
              try clear c7b0
              try clear c8
              try clear c8b0
              try clear c9
              try clear c10
              try clear c11
              try clear c12
              try clear c13
              try clear c14
              try clear c15
              try clear c16
              try clear c27
              try clear c36
              try clear c41
              try clear c44
              try clear c49
              try clear c50
              try clear c52
              try clear c52b0
              try clear c52b1
              try clear c52b2
              try clear c53
              try clear c55
              try clear c61
              try clear c62
              try clear p64
              try clear c70
              try clear c71
              try clear c72
              try clear c77
              try clear c78
              try clear c78b0
              try clear c78b1
              try clear c80
              try clear c86
              try clear c87
              try clear c95
              try clear c96
              try clear c97
              try clear c104
              try clear c110
              try clear c111
              try clear c118
              try clear c119
              try clear c120
              try clear c122
              try clear c123
              try clear c123b0
              try clear c124
              try clear c125
              try clear c126
              try clear c128
              try clear c129
              try clear c131
              try clear c132
              try clear c133
              try clear c134
              try clear c136
              try clear c137
              try clear c139
              try clear c141
              try clear c141b0
              try clear c141b1
              try clear c142
              try clear c143
              try clear c144
              try clear c146
              try clear c147
              try clear c149
              try clear c152
              try clear c153
              try clear c154
              try clear c156
              try clear c157
              try clear c159
              try clear hcz100_0
              try clear hcz100_1
              try clear hcz105_0
              try clear hcz105_1
              try clear hcz106_0
              try clear hcz106_1
              try clear hcz106_2
              try clear hcz106_3
              try clear hcz106_4
              try clear hcz106_5
              try clear hcz112_0
              try clear hcz112_1
              try clear hcz114_0
              try clear hcz114_1
              try clear hcz115_0
              try clear hcz115_1
              try clear hcz115_2
              try clear hcz115_3
              try clear hcz115_4
              try clear hcz115_5
              try clear hcz121_0
              try clear hcz121_1
              try clear hcz121_2
              try clear hcz121_3
              try clear hcz121_4
              try clear hcz121_5
              try clear hcz127_0
              try clear hcz127_1
              try clear hcz127_2
              try clear hcz127_3
              try clear hcz127_4
              try clear hcz127_5
              try clear hcz130_0
              try clear hcz130_1
              try clear hcz130_2
              try clear hcz130_3
              try clear hcz130_4
              try clear hcz130_5
              try clear hcz135_0
              try clear hcz135_1
              try clear hcz135_2
              try clear hcz135_3
              try clear hcz135_4
              try clear hcz135_5
              try clear hcz138_0
              try clear hcz138_1
              try clear hcz138_2
              try clear hcz138_3
              try clear hcz138_4
              try clear hcz138_5
              try clear hcz140_0
              try clear hcz140_1
              try clear hcz145_0
              try clear hcz145_1
              try clear hcz145_2
              try clear hcz145_3
              try clear hcz145_4
              try clear hcz145_5
              try clear hcz148_0
              try clear hcz148_1
              try clear hcz148_2
              try clear hcz148_3
              try clear hcz148_4
              try clear hcz148_5
              try clear hcz150_0
              try clear hcz150_1
              try clear hcz151_0
              try clear hcz151_1
              try clear hcz155_0
              try clear hcz155_1
              try clear hcz155_2
              try clear hcz155_3
              try clear hcz155_4
              try clear hcz155_5
              try clear hcz158_0
              try clear hcz158_1
              try clear hcz158_2
              try clear hcz158_3
              try clear hcz158_4
              try clear hcz158_5
              try clear hcz160_0
              try clear hcz160_1
              try clear hcz161_0
              try clear hcz161_1
              try clear hcz17_0
              try clear hcz17_1
              try clear hcz19_0
              try clear hcz19_1
              try clear hcz21_0
              try clear hcz21_1
              try clear hcz21_2
              try clear hcz21_3
              try clear hcz21_4
              try clear hcz21_5
              try clear hcz25_0
              try clear hcz25_1
              try clear hcz25_2
              try clear hcz25_3
              try clear hcz25_4
              try clear hcz25_5
              try clear hcz28_0
              try clear hcz28_1
              try clear hcz30_0
              try clear hcz30_1
              try clear hcz32_0
              try clear hcz32_1
              try clear hcz32_2
              try clear hcz32_3
              try clear hcz32_4
              try clear hcz32_5
              try clear hcz37_0
              try clear hcz37_1
              try clear hcz39_0
              try clear hcz39_1
              try clear hcz42_0
              try clear hcz42_1
              try clear hcz56_0
              try clear hcz56_1
              try clear hcz57_0
              try clear hcz57_1
              try clear hcz57_2
              try clear hcz57_3
              try clear hcz57_4
              try clear hcz57_5
              try clear hcz63_0
              try clear hcz63_1
              try clear hcz65_0
              try clear hcz65_1
              try clear hcz66_0
              try clear hcz66_1
              try clear hcz67_0
              try clear hcz67_1
              try clear hcz67_2
              try clear hcz67_3
              try clear hcz67_4
              try clear hcz67_5
              try clear hcz73_0
              try clear hcz73_1
              try clear hcz73_2
              try clear hcz73_3
              try clear hcz73_4
              try clear hcz73_5
              try clear hcz74_0
              try clear hcz74_1
              try clear hcz75_0
              try clear hcz75_1
              try clear hcz81_0
              try clear hcz81_1
              try clear hcz82_0
              try clear hcz82_1
              try clear hcz82_2
              try clear hcz82_3
              try clear hcz82_4
              try clear hcz82_5
              try clear hcz88_0
              try clear hcz88_1
              try clear hcz90_0
              try clear hcz90_1
              try clear hcz91_0
              try clear hcz91_1
              try clear hcz92_0
              try clear hcz92_1
              try clear hcz92_2
              try clear hcz92_3
              try clear hcz92_4
              try clear hcz92_5
              try clear hcz98_0
              try clear hcz98_1
              try clear hcz98_2
              try clear hcz98_3
              try clear hcz98_4
              try clear hcz98_5
              try clear hcz99_0
              try clear hcz99_1
              try clear hfz100_0
              try clear hfz100_1
              try clear hfz105_0
              try clear hfz105_1
              try clear hfz106_0
              try clear hfz106_1
              try clear hfz106_2
              try clear hfz106_3
              try clear hfz106_4
              try clear hfz106_5
              try clear hfz112_0
              try clear hfz112_1
              try clear hfz114_0
              try clear hfz114_1
              try clear hfz115_0
              try clear hfz115_1
              try clear hfz115_2
              try clear hfz115_3
              try clear hfz115_4
              try clear hfz115_5
              try clear hfz121_0
              try clear hfz121_1
              try clear hfz121_2
              try clear hfz121_3
              try clear hfz121_4
              try clear hfz121_5
              try clear hfz127_0
              try clear hfz127_1
              try clear hfz127_2
              try clear hfz127_3
              try clear hfz127_4
              try clear hfz127_5
              try clear hfz130_0
              try clear hfz130_1
              try clear hfz130_2
              try clear hfz130_3
              try clear hfz130_4
              try clear hfz130_5
              try clear hfz135_0
              try clear hfz135_1
              try clear hfz135_2
              try clear hfz135_3
              try clear hfz135_4
              try clear hfz135_5
              try clear hfz138_0
              try clear hfz138_1
              try clear hfz138_2
              try clear hfz138_3
              try clear hfz138_4
              try clear hfz138_5
              try clear hfz140_0
              try clear hfz140_1
              try clear hfz145_0
              try clear hfz145_1
              try clear hfz145_2
              try clear hfz145_3
              try clear hfz145_4
              try clear hfz145_5
              try clear hfz148_0
              try clear hfz148_1
              try clear hfz148_2
              try clear hfz148_3
              try clear hfz148_4
              try clear hfz148_5
              try clear hfz150_0
              try clear hfz150_1
              try clear hfz151_0
              try clear hfz151_1
              try clear hfz155_0
              try clear hfz155_1
              try clear hfz155_2
              try clear hfz155_3
              try clear hfz155_4
              try clear hfz155_5
              try clear hfz158_0
              try clear hfz158_1
              try clear hfz158_2
              try clear hfz158_3
              try clear hfz158_4
              try clear hfz158_5
              try clear hfz160_0
              try clear hfz160_1
              try clear hfz161_0
              try clear hfz161_1
              try clear hfz17_0
              try clear hfz17_1
              try clear hfz19_0
              try clear hfz19_1
              try clear hfz21_0
              try clear hfz21_1
              try clear hfz21_2
              try clear hfz21_3
              try clear hfz21_4
              try clear hfz21_5
              try clear hfz25_0
              try clear hfz25_1
              try clear hfz25_2
              try clear hfz25_3
              try clear hfz25_4
              try clear hfz25_5
              try clear hfz28_0
              try clear hfz28_1
              try clear hfz30_0
              try clear hfz30_1
              try clear hfz32_0
              try clear hfz32_1
              try clear hfz32_2
              try clear hfz32_3
              try clear hfz32_4
              try clear hfz32_5
              try clear hfz37_0
              try clear hfz37_1
              try clear hfz39_0
              try clear hfz39_1
              try clear hfz42_0
              try clear hfz42_1
              try clear hfz56_0
              try clear hfz56_1
              try clear hfz57_0
              try clear hfz57_1
              try clear hfz57_2
              try clear hfz57_3
              try clear hfz57_4
              try clear hfz57_5
              try clear hfz63_0
              try clear hfz63_1
              try clear hfz65_0
              try clear hfz65_1
              try clear hfz66_0
              try clear hfz66_1
              try clear hfz67_0
              try clear hfz67_1
              try clear hfz67_2
              try clear hfz67_3
              try clear hfz67_4
              try clear hfz67_5
              try clear hfz73_0
              try clear hfz73_1
              try clear hfz73_2
              try clear hfz73_3
              try clear hfz73_4
              try clear hfz73_5
              try clear hfz74_0
              try clear hfz74_1
              try clear hfz75_0
              try clear hfz75_1
              try clear hfz81_0
              try clear hfz81_1
              try clear hfz82_0
              try clear hfz82_1
              try clear hfz82_2
              try clear hfz82_3
              try clear hfz82_4
              try clear hfz82_5
              try clear hfz88_0
              try clear hfz88_1
              try clear hfz90_0
              try clear hfz90_1
              try clear hfz91_0
              try clear hfz91_1
              try clear hfz92_0
              try clear hfz92_1
              try clear hfz92_2
              try clear hfz92_3
              try clear hfz92_4
              try clear hfz92_5
              try clear hfz98_0
              try clear hfz98_1
              try clear hfz98_2
              try clear hfz98_3
              try clear hfz98_4
              try clear hfz98_5
              try clear hfz99_0
              try clear hfz99_1
              try clear p2
              obtain ⟨kq, x117_102, rfl, HA, HJ102, HO_417000, BK402, BK403, BK416, BK435, HB⟩ := hcut
              cases kq with
              | zero => exact absurd HA.out (by simp [rollcalllaw17_QueueMay.j1])
              | succ kj102 =>
                have H := HA.out
                clear HA
                simp only [rollcalllaw17_QueueMay.j1] at H
                by_cases c162 : x117_102 = true
                · subst c162
                  have H1 : (some false) = some r := by rw [if_pos rfl] at H; exact H
                  clear H
                  have H := H1
                  clear H1
                  exact absurd ((Option.some.inj H).trans HT.out) (by simp)
                · replace c162 := Bool.eq_false_iff.mpr c162
                  subst c162
                  have H1 : (rollcalllaw17_QueueMay.l0 kj102 0 l0_0 a0_1 a1_0 a1_1 a1_2 a1_3 a1_4 a1_5 t412 false) = some r := by rw [if_neg (show ¬ (false = true) by decide)] at H; exact H
                  clear H
                  have H := H1
                  clear H1
                  have H' := Aside0.mk H
                  clear H
                  go_wp2
                  repeat (go_quiet (fail); try go_wp2)
                  go_loopg [12] kj102 (fun kq v12 w' => ∃ (x12_3 : Int), v12 = .int .i64 x12_3 ∧ Aside0 (rollcalllaw17_QueueMay.l0 kq x12_3 l0_0 a0_1 a1_0 a1_1 a1_2 a1_3 a1_4 a1_5 t412 false = some r) ∧ Aside0 (kq ≤ kj102) ∧ Aside0 (Kd.V k33 33 w' w.heap.size (fun k_ => k_ ≠ gb402 ∧ k_ ≠ gb403 ∧ k_ ≠ gb416 ∧ k_ ≠ gb435) (.slice Ao109 t412.length co109) t412) ∧ Aside0 (w'.heap[gb402]? = some (.cells #[(.slice A0_0 l0_0.length c0_0), .bool a0_1] 24 (0, 0))) ∧ Aside0 (w'.heap[gb403]? = some (.cells #[.string a1_0, .bool a1_1, .int .i64 a1_2, .int .i64 a1_3, .int .i64 a1_4, .string a1_5] 33 (0, 0))) ∧ Aside0 (w'.heap[gb416]? = some (.cells #[(.slice Ao109 t412.length co109), .bool false] 24 (0, 0))) ∧ Aside0 (w'.heap[gb435]? = some (.cells #[.string t428, .bool t429, .int .i64 t430, .int .i64 t431, .int .i64 t432, .string t433] 33 (0, 0))) ∧ Aside0 (Below w.heap.size w w'))
                  case atStart => exact ⟨(0), (by first | rfl | (simp; done) | (simp [*]; done)), H', ⟨Nat.le_refl _⟩, ⟨vS HO_417000.out⟩, ⟨bS BK402.out⟩, ⟨bS BK403.out⟩, ⟨bS BK416.out⟩, ⟨bS BK435.out⟩, ⟨by repeat (first | (with_reducible first | exact HB.out | apply below_alloc | apply pw_below_drewN | apply below_drew1 | refine below_set ?_ GE402.out | refine below_set ?_ GE403.out | refine below_set ?_ GE416.out | refine below_set ?_ GE435.out) | exact HB.out)⟩⟩
                  case round =>
                    clear H'
                    try clear c1
                    try clear c2
                    try clear p2
                    try clear c3
                    try clear c4
                    try clear c5
                    try clear c6
                    try clear p6
                    try clear c7
                    try clear c7b0
                    try clear c8
                    try clear c8b0
                    try clear c9
                    try clear c10
                    try clear c11
                    try clear c12
                    try clear c13
                    try clear c14
                    try clear c15
                    try clear c16
                    try clear c27
                    try clear c36
                    try clear c41
                    try clear c44
                    try clear c49
                    try clear c50
                    try clear c52
                    try clear c52b0
                    try clear c52b1
                    try clear c52b2
                    try clear c53
                    try clear c55
                    try clear c61
                    try clear c62
                    try clear p64
                    try clear c70
                    try clear c71
                    try clear c72
                    try clear c77
                    try clear c78
                    try clear c78b0
                    try clear c78b1
                    try clear c80
                    try clear c86
                    try clear c87
                    try clear c95
                    try clear c96
                    try clear c97
                    try clear c104
                    try clear c110
                    try clear c111
                    try clear c118
                    try clear c119
                    try clear c120
                    try clear c122
                    try clear c123
                    try clear c123b0
                    try clear c124
                    try clear c125
                    try clear c126
                    try clear c128
                    try clear c129
                    try clear c131
                    try clear c132
                    try clear c133
                    try clear c134
                    try clear c136
                    try clear c137
                    try clear c139
                    try clear c141
                    try clear c141b0
                    try clear c141b1
                    try clear c142
                    try clear c143
                    try clear c144
                    try clear c146
                    try clear c147
                    try clear c149
                    try clear c152
                    try clear c153
                    try clear c154
                    try clear c156
                    try clear c157
                    try clear c159
                    try clear c162
                    try clear hcz100_0
                    try clear hcz100_1
                    try clear hcz105_0
                    try clear hcz105_1
                    try clear hcz106_0
                    try clear hcz106_1
                    try clear hcz106_2
                    try clear hcz106_3
                    try clear hcz106_4
                    try clear hcz106_5
                    try clear hcz112_0
                    try clear hcz112_1
                    try clear hcz114_0
                    try clear hcz114_1
                    try clear hcz115_0
                    try clear hcz115_1
                    try clear hcz115_2
                    try clear hcz115_3
                    try clear hcz115_4
                    try clear hcz115_5
                    try clear hcz121_0
                    try clear hcz121_1
                    try clear hcz121_2
                    try clear hcz121_3
                    try clear hcz121_4
                    try clear hcz121_5
                    try clear hcz127_0
                    try clear hcz127_1
                    try clear hcz127_2
                    try clear hcz127_3
                    try clear hcz127_4
                    try clear hcz127_5
                    try clear hcz130_0
                    try clear hcz130_1
                    try clear hcz130_2
                    try clear hcz130_3
                    try clear hcz130_4
                    try clear hcz130_5
                    try clear hcz135_0
                    try clear hcz135_1
                    try clear hcz135_2
                    try clear hcz135_3
                    try clear hcz135_4
                    try clear hcz135_5
                    try clear hcz138_0
                    try clear hcz138_1
                    try clear hcz138_2
                    try clear hcz138_3
                    try clear hcz138_4
                    try clear hcz138_5
                    try clear hcz140_0
                    try clear hcz140_1
                    try clear hcz145_0
                    try clear hcz145_1
                    try clear hcz145_2
                    try clear hcz145_3
                    try clear hcz145_4
                    try clear hcz145_5
                    try clear hcz148_0
                    try clear hcz148_1
                    try clear hcz148_2
                    try clear hcz148_3
                    try clear hcz148_4
                    try clear hcz148_5
                    try clear hcz150_0
                    try clear hcz150_1
                    try clear hcz151_0
                    try clear hcz151_1
                    try clear hcz155_0
                    try clear hcz155_1
                    try clear hcz155_2
                    try clear hcz155_3
                    try clear hcz155_4
                    try clear hcz155_5
                    try clear hcz158_0
                    try clear hcz158_1
                    try clear hcz158_2
                    try clear hcz158_3
                    try clear hcz158_4
                    try clear hcz158_5
                    try clear hcz160_0
                    try clear hcz160_1
                    try clear hcz161_0
                    try clear hcz161_1
                    try clear hcz17_0
                    try clear hcz17_1
                    try clear hcz19_0
                    try clear hcz19_1
                    try clear hcz21_0
                    try clear hcz21_1
                    try clear hcz21_2
                    try clear hcz21_3
                    try clear hcz21_4
                    try clear hcz21_5
                    try clear hcz25_0
                    try clear hcz25_1
                    try clear hcz25_2
                    try clear hcz25_3
                    try clear hcz25_4
                    try clear hcz25_5
                    try clear hcz28_0
                    try clear hcz28_1
                    try clear hcz30_0
                    try clear hcz30_1
                    try clear hcz32_0
                    try clear hcz32_1
                    try clear hcz32_2
                    try clear hcz32_3
                    try clear hcz32_4
                    try clear hcz32_5
                    try clear hcz37_0
                    try clear hcz37_1
                    try clear hcz39_0
                    try clear hcz39_1
                    try clear hcz42_0
                    try clear hcz42_1
                    try clear hcz56_0
                    try clear hcz56_1
                    try clear hcz57_0
                    try clear hcz57_1
                    try clear hcz57_2
                    try clear hcz57_3
                    try clear hcz57_4
                    try clear hcz57_5
                    try clear hcz63_0
                    try clear hcz63_1
                    try clear hcz65_0
                    try clear hcz65_1
                    try clear hcz66_0
                    try clear hcz66_1
                    try clear hcz67_0
                    try clear hcz67_1
                    try clear hcz67_2
                    try clear hcz67_3
                    try clear hcz67_4
                    try clear hcz67_5
                    try clear hcz73_0
                    try clear hcz73_1
                    try clear hcz73_2
                    try clear hcz73_3
                    try clear hcz73_4
                    try clear hcz73_5
                    try clear hcz74_0
                    try clear hcz74_1
                    try clear hcz75_0
                    try clear hcz75_1
                    try clear hcz81_0
                    try clear hcz81_1
                    try clear hcz82_0
                    try clear hcz82_1
                    try clear hcz82_2
                    try clear hcz82_3
                    try clear hcz82_4
                    try clear hcz82_5
                    try clear hcz88_0
                    try clear hcz88_1
                    try clear hcz90_0
                    try clear hcz90_1
                    try clear hcz91_0
                    try clear hcz91_1
                    try clear hcz92_0
                    try clear hcz92_1
                    try clear hcz92_2
                    try clear hcz92_3
                    try clear hcz92_4
                    try clear hcz92_5
                    try clear hcz98_0
                    try clear hcz98_1
                    try clear hcz98_2
                    try clear hcz98_3
                    try clear hcz98_4
                    try clear hcz98_5
                    try clear hcz99_0
                    try clear hcz99_1
                    try clear hfz100_0
                    try clear hfz100_1
                    try clear hfz105_0
                    try clear hfz105_1
                    try clear hfz106_0
                    try clear hfz106_1
                    try clear hfz106_2
                    try clear hfz106_3
                    try clear hfz106_4
                    try clear hfz106_5
                    try clear hfz112_0
                    try clear hfz112_1
                    try clear hfz114_0
                    try clear hfz114_1
                    try clear hfz115_0
                    try clear hfz115_1
                    try clear hfz115_2
                    try clear hfz115_3
                    try clear hfz115_4
                    try clear hfz115_5
                    try clear hfz121_0
                    try clear hfz121_1
                    try clear hfz121_2
                    try clear hfz121_3
                    try clear hfz121_4
                    try clear hfz121_5
                    try clear hfz127_0
                    try clear hfz127_1
                    try clear hfz127_2
                    try clear hfz127_3
                    try clear hfz127_4
                    try clear hfz127_5
                    try clear hfz130_0
                    try clear hfz130_1
                    try clear hfz130_2
                    try clear hfz130_3
                    try clear hfz130_4
                    try clear hfz130_5
                    try clear hfz135_0
                    try clear hfz135_1
                    try clear hfz135_2
                    try clear hfz135_3
                    try clear hfz135_4
                    try clear hfz135_5
                    try clear hfz138_0
                    try clear hfz138_1
                    try clear hfz138_2
                    try clear hfz138_3
                    try clear hfz138_4
                    try clear hfz138_5
                    try clear hfz140_0
                    try clear hfz140_1
                    try clear hfz145_0
                    try clear hfz145_1
                    try clear hfz145_2
                    try clear hfz145_3
                    try clear hfz145_4
                    try clear hfz145_5
                    try clear hfz148_0
                    try clear hfz148_1
                    try clear hfz148_2
                    try clear hfz148_3
                    try clear hfz148_4
                    try clear hfz148_5
                    try clear hfz150_0
                    try clear hfz150_1
                    try clear hfz151_0
                    try clear hfz151_1
                    try clear hfz155_0
                    try clear hfz155_1
                    try clear hfz155_2
                    try clear hfz155_3
                    try clear hfz155_4
                    try clear hfz155_5
                    try clear hfz158_0
                    try clear hfz158_1
                    try clear hfz158_2
                    try clear hfz158_3
                    try clear hfz158_4
                    try clear hfz158_5
                    try clear hfz160_0
                    try clear hfz160_1
                    try clear hfz161_0
                    try clear hfz161_1
                    try clear hfz17_0
                    try clear hfz17_1
                    try clear hfz19_0
                    try clear hfz19_1
                    try clear hfz21_0
                    try clear hfz21_1
                    try clear hfz21_2
                    try clear hfz21_3
                    try clear hfz21_4
                    try clear hfz21_5
                    try clear hfz25_0
                    try clear hfz25_1
                    try clear hfz25_2
                    try clear hfz25_3
                    try clear hfz25_4
                    try clear hfz25_5
                    try clear hfz28_0
                    try clear hfz28_1
                    try clear hfz30_0
                    try clear hfz30_1
                    try clear hfz32_0
                    try clear hfz32_1
                    try clear hfz32_2
                    try clear hfz32_3
                    try clear hfz32_4
                    try clear hfz32_5
                    try clear hfz37_0
                    try clear hfz37_1
                    try clear hfz39_0
                    try clear hfz39_1
                    try clear hfz42_0
                    try clear hfz42_1
                    try clear hfz56_0
                    try clear hfz56_1
                    try clear hfz57_0
                    try clear hfz57_1
                    try clear hfz57_2
                    try clear hfz57_3
                    try clear hfz57_4
                    try clear hfz57_5
                    try clear hfz63_0
                    try clear hfz63_1
                    try clear hfz65_0
                    try clear hfz65_1
                    try clear hfz66_0
                    try clear hfz66_1
                    try clear hfz67_0
                    try clear hfz67_1
                    try clear hfz67_2
                    try clear hfz67_3
                    try clear hfz67_4
                    try clear hfz67_5
                    try clear hfz73_0
                    try clear hfz73_1
                    try clear hfz73_2
                    try clear hfz73_3
                    try clear hfz73_4
                    try clear hfz73_5
                    try clear hfz74_0
                    try clear hfz74_1
                    try clear hfz75_0
                    try clear hfz75_1
                    try clear hfz81_0
                    try clear hfz81_1
                    try clear hfz82_0
                    try clear hfz82_1
                    try clear hfz82_2
                    try clear hfz82_3
                    try clear hfz82_4
                    try clear hfz82_5
                    try clear hfz88_0
                    try clear hfz88_1
                    try clear hfz90_0
                    try clear hfz90_1
                    try clear hfz91_0
                    try clear hfz91_1
                    try clear hfz92_0
                    try clear hfz92_1
                    try clear hfz92_2
                    try clear hfz92_3
                    try clear hfz92_4
                    try clear hfz92_5
                    try clear hfz98_0
                    try clear hfz98_1
                    try clear hfz98_2
                    try clear hfz98_3
                    try clear hfz98_4
                    try clear hfz98_5
                    try clear hfz99_0
                    try clear hfz99_1
                    try clear p2
                    try clear p6
                    try clear p64
                    obtain ⟨x12_3, rfl, HA, HK3, HO_417000, BK402, BK403, BK416, BK435, HB⟩ := hrel
                    cases gk with
                    | zero => exact absurd HA.out (by simp [rollcalllaw17_QueueMay.l0])
                    | succ k3 =>
                      have H := HA.out
                      clear HA
                      simp only [rollcalllaw17_QueueMay.l0] at H
                      by_cases c163 : x12_3 < (l0_0.length : Int)
                      · rw [if_pos c163] at H
                        have c163b0 : decide (x12_3 < (l0_0.length : Int)) = true := decide_eq_true c163
                        clear c163
                        by_cases c164 : 0 ≤ x12_3
                        · rw [if_pos c164] at H
                          have c164b0 : decide (0 ≤ x12_3) = true := decide_eq_true c164
                          clear c164
                          by_cases c165 : x12_3 < (t412.length : Int)
                          · rw [if_pos c165] at H
                            have c165b0 : decide (x12_3 < (t412.length : Int)) = true := decide_eq_true c165
                            clear c165
                            by_cases c166 : ((rd_T33 t412 x12_3).f0).toList = ((rd_T33 l0_0 x12_3).f0).toList
                            · rw [if_pos c166] at H
                              have c166b0 : (((rd_T33 t412 x12_3).f0).toList == ((rd_T33 l0_0 x12_3).f0).toList) = true := beq_iff_eq.mpr c166
                              have c166b1 : (((rd_T33 t412 x12_3).f0).toList != ((rd_T33 l0_0 x12_3).f0).toList) = false := bne_eq_false_iff_eq.mpr c166
                              clear c166
                              by_cases c167 : ((rd_T33 l0_0 x12_3).f0).toList = a1_0.toList
                              · rw [if_pos c167] at H
                                have c167b0 : (((rd_T33 l0_0 x12_3).f0).toList == a1_0.toList) = true := beq_iff_eq.mpr c167
                                have c167b1 : (((rd_T33 l0_0 x12_3).f0).toList != a1_0.toList) = false := bne_eq_false_iff_eq.mpr c167
                                clear c167
                                have H' := Aside0.mk H
                                clear H
                                have hnb168 := NB402_403.out
                                have hnc168 := NB403_402.out
                                have hnb169 := NB402_416.out
                                have hnc169 := NB416_402.out
                                have hnb170 := NB402_435.out
                                have hnc170 := NB435_402.out
                                have hcz171_0 : wr.cell? ⟨gb402, 0, none⟩ = some (.slice A0_0 l0_0.length c0_0) := (blk_cell BK402.out 0).trans rfl
                                have hcz171_1 : wr.cell? ⟨gb402, 1, none⟩ = some (.bool a0_1) := (blk_cell BK402.out 1).trans rfl
                                have hfz171_0 := blk_frozen BK402.out 0
                                have hfz171_1 := blk_frozen BK402.out 1
                                have hnb172 := NB416_403.out
                                have hnc172 := NB403_416.out
                                have hnb173 := NB416_435.out
                                have hnc173 := NB435_416.out
                                have hcz174_0 : wr.cell? ⟨gb416, 0, none⟩ = some (.slice Ao109 t412.length co109) := (blk_cell BK416.out 0).trans rfl
                                have hcz174_1 : wr.cell? ⟨gb416, 1, none⟩ = some (.bool false) := (blk_cell BK416.out 1).trans rfl
                                have hfz174_0 := blk_frozen BK416.out 0
                                have hfz174_1 := blk_frozen BK416.out 1
                                have p436 : 0 ≤ (x12_3 : Int) := of_decide_eq_true (by first | (with_reducible assumption) | assumption)
                                have q436 : x12_3 < (t412.length : Int) := of_decide_eq_true (by first | (with_reducible assumption) | assumption)
                                obtain ⟨ad436, e436, hx436_0, hx436_1, hx436_2, hx436_3, hx436_4, hx436_5⟩ := at_T33 (Kd.V_reads' HO_417000.out).2.2 x12_3 p436 q436
                                cases e436
                                replace p436 := eq_true p436
                                replace q436 := eq_true q436
                                have p437 : 0 ≤ (x12_3 : Int) := of_decide_eq_true (by first | (with_reducible assumption) | assumption)
                                have q437 : x12_3 < (l0_0.length : Int) := of_decide_eq_true (by first | (with_reducible assumption) | assumption)
                                obtain ⟨ad437, e437, hx437_0, hx437_1, hx437_2, hx437_3, hx437_4, hx437_5⟩ := at_T33 HR0_0.out x12_3 p437 q437
                                cases e437
                                replace hx437_0 := (HB.out.cell (World.block_lt_of_cell? w _ hx437_0)).trans hx437_0
                                replace hx437_1 := (HB.out.cell (World.block_lt_of_cell? w _ hx437_1)).trans hx437_1
                                replace hx437_2 := (HB.out.cell (World.block_lt_of_cell? w _ hx437_2)).trans hx437_2
                                replace hx437_3 := (HB.out.cell (World.block_lt_of_cell? w _ hx437_3)).trans hx437_3
                                replace hx437_4 := (HB.out.cell (World.block_lt_of_cell? w _ hx437_4)).trans hx437_4
                                replace hx437_5 := (HB.out.cell (World.block_lt_of_cell? w _ hx437_5)).trans hx437_5
                                replace p437 := eq_true p437
                                replace q437 := eq_true q437
                                have p438 : 0 ≤ (x12_3 : Int) := of_decide_eq_true (by first | (with_reducible assumption) | assumption)
                                have q438 : x12_3 < (l0_0.length : Int) := of_decide_eq_true (by first | (with_reducible assumption) | assumption)
                                obtain ⟨ad438, e438, hx438_0, hx438_1, hx438_2, hx438_3, hx438_4, hx438_5⟩ := at_T33 HR0_0.out x12_3 p438 q438
                                obtain rfl : ad437 = ad438 := (by injection e438)
                                replace hx438_0 := (HB.out.cell (World.block_lt_of_cell? w _ hx438_0)).trans hx438_0
                                replace hx438_1 := (HB.out.cell (World.block_lt_of_cell? w _ hx438_1)).trans hx438_1
                                replace hx438_2 := (HB.out.cell (World.block_lt_of_cell? w _ hx438_2)).trans hx438_2
                                replace hx438_3 := (HB.out.cell (World.block_lt_of_cell? w _ hx438_3)).trans hx438_3
                                replace hx438_4 := (HB.out.cell (World.block_lt_of_cell? w _ hx438_4)).trans hx438_4
                                replace hx438_5 := (HB.out.cell (World.block_lt_of_cell? w _ hx438_5)).trans hx438_5
                                replace p438 := eq_true p438
                                replace q438 := eq_true q438
                                have hnb175 := NB403_435.out
                                have hnc175 := NB435_403.out
                                have hcz176_0 : wr.cell? ⟨gb403, 0, none⟩ = some (.string a1_0) := (blk_cell BK403.out 0).trans rfl
                                have hcz176_1 : wr.cell? ⟨gb403, 1, none⟩ = some (.bool a1_1) := (blk_cell BK403.out 1).trans rfl
                                have hcz176_2 : wr.cell? ⟨gb403, 2, none⟩ = some (.int .i64 a1_2) := (blk_cell BK403.out 2).trans rfl
                                have hcz176_3 : wr.cell? ⟨gb403, 3, none⟩ = some (.int .i64 a1_3) := (blk_cell BK403.out 3).trans rfl
                                have hcz176_4 : wr.cell? ⟨gb403, 4, none⟩ = some (.int .i64 a1_4) := (blk_cell BK403.out 4).trans rfl
                                have hcz176_5 : wr.cell? ⟨gb403, 5, none⟩ = some (.string a1_5) := (blk_cell BK403.out 5).trans rfl
                                have hfz176_0 := blk_frozen BK403.out 0
                                have hfz176_1 := blk_frozen BK403.out 1
                                have hfz176_2 := blk_frozen BK403.out 2
                                have hfz176_3 := blk_frozen BK403.out 3
                                have hfz176_4 := blk_frozen BK403.out 4
                                have hfz176_5 := blk_frozen BK403.out 5
                                go_wp2
                                repeat (go_quiet (fail); try go_wp2)
                                go_roundg k3
                                case measure => have := HJ3.out; have := HJ102.out; have := HK3.out; omega
                                case rel => exact ⟨(wrap64 (x12_3 + 1)), (by first | rfl | (simp; done) | (simp [*]; done)), H', ⟨by have := HJ3.out; have := HJ102.out; have := HK3.out; omega⟩, ⟨vS HO_417000.out⟩, ⟨bS BK402.out⟩, ⟨bS BK403.out⟩, ⟨bS BK416.out⟩, ⟨bS BK435.out⟩, ⟨by repeat (first | (with_reducible first | exact HB.out | apply below_alloc | apply pw_below_drewN | apply below_drew1 | refine below_set ?_ GE402.out | refine below_set ?_ GE403.out | refine below_set ?_ GE416.out | refine below_set ?_ GE435.out) | exact HB.out)⟩⟩
                              · rw [if_neg c167] at H
                                have c167b0 : (((rd_T33 l0_0 x12_3).f0).toList == a1_0.toList) = false := beq_eq_false_iff_ne.mpr c167
                                have c167b1 : (((rd_T33 l0_0 x12_3).f0).toList != a1_0.toList) = true := bne_iff_ne.mpr c167
                                by_cases c177 : (!((((rd_T33 t412 x12_3).f0).toList) == (((rd_T33 l0_0 x12_3).f0).toList)) || (!(((rd_T33 t412 x12_3).f1) == ((rd_T33 l0_0 x12_3).f1)) || ((!(((rd_T33 t412 x12_3).f2.f0) == ((rd_T33 l0_0 x12_3).f2.f0)) || (!(((rd_T33 t412 x12_3).f2.f1) == ((rd_T33 l0_0 x12_3).f2.f1)) || (!(((rd_T33 t412 x12_3).f2.f2) == ((rd_T33 l0_0 x12_3).f2.f2)) || (!((((rd_T33 t412 x12_3).f2.f3).toList) == (((rd_T33 l0_0 x12_3).f2.f3).toList))))))))) = true
                                · rw [if_pos c177] at H
                                  have c177b0 : (!((((rd_T33 t412 x12_3).f0).toList) == (((rd_T33 l0_0 x12_3).f0).toList)) || (!(((rd_T33 t412 x12_3).f1) == ((rd_T33 l0_0 x12_3).f1)) || ((!(((rd_T33 t412 x12_3).f2.f0) == ((rd_T33 l0_0 x12_3).f2.f0)) || (!(((rd_T33 t412 x12_3).f2.f1) == ((rd_T33 l0_0 x12_3).f2.f1)) || (!(((rd_T33 t412 x12_3).f2.f2) == ((rd_T33 l0_0 x12_3).f2.f2)) || (!((((rd_T33 t412 x12_3).f2.f3).toList) == (((rd_T33 l0_0 x12_3).f2.f3).toList))))))))) = true := c177
                                  clear c177
                                  exact absurd ((Option.some.inj H).trans HT.out) (by simp)
                                · rw [if_neg c177] at H
                                  have c177b0 : (!((((rd_T33 t412 x12_3).f0).toList) == (((rd_T33 l0_0 x12_3).f0).toList)) || (!(((rd_T33 t412 x12_3).f1) == ((rd_T33 l0_0 x12_3).f1)) || ((!(((rd_T33 t412 x12_3).f2.f0) == ((rd_T33 l0_0 x12_3).f2.f0)) || (!(((rd_T33 t412 x12_3).f2.f1) == ((rd_T33 l0_0 x12_3).f2.f1)) || (!(((rd_T33 t412 x12_3).f2.f2) == ((rd_T33 l0_0 x12_3).f2.f2)) || (!((((rd_T33 t412 x12_3).f2.f3).toList) == (((rd_T33 l0_0 x12_3).f2.f3).toList))))))))) = false := by simpa using c177
                                  (try (have cz9_ := c177b0; simp only [c166b0, Bool.not_true, Bool.false_or] at cz9_))
                                  clear c177
                                  have H' := Aside0.mk H
                                  clear H
                                  have hnb178 := NB402_403.out
                                  have hnc178 := NB403_402.out
                                  have hnb179 := NB402_416.out
                                  have hnc179 := NB416_402.out
                                  have hnb180 := NB402_435.out
                                  have hnc180 := NB435_402.out
                                  have hcz181_0 : wr.cell? ⟨gb402, 0, none⟩ = some (.slice A0_0 l0_0.length c0_0) := (blk_cell BK402.out 0).trans rfl
                                  have hcz181_1 : wr.cell? ⟨gb402, 1, none⟩ = some (.bool a0_1) := (blk_cell BK402.out 1).trans rfl
                                  have hfz181_0 := blk_frozen BK402.out 0
                                  have hfz181_1 := blk_frozen BK402.out 1
                                  have hnb182 := NB416_403.out
                                  have hnc182 := NB403_416.out
                                  have hnb183 := NB416_435.out
                                  have hnc183 := NB435_416.out
                                  have hcz184_0 : wr.cell? ⟨gb416, 0, none⟩ = some (.slice Ao109 t412.length co109) := (blk_cell BK416.out 0).trans rfl
                                  have hcz184_1 : wr.cell? ⟨gb416, 1, none⟩ = some (.bool false) := (blk_cell BK416.out 1).trans rfl
                                  have hfz184_0 := blk_frozen BK416.out 0
                                  have hfz184_1 := blk_frozen BK416.out 1
                                  have p436 : 0 ≤ (x12_3 : Int) := of_decide_eq_true (by first | (with_reducible assumption) | assumption)
                                  have q436 : x12_3 < (t412.length : Int) := of_decide_eq_true (by first | (with_reducible assumption) | assumption)
                                  obtain ⟨ad436, e436, hx436_0, hx436_1, hx436_2, hx436_3, hx436_4, hx436_5⟩ := at_T33 (Kd.V_reads' HO_417000.out).2.2 x12_3 p436 q436
                                  cases e436
                                  replace p436 := eq_true p436
                                  replace q436 := eq_true q436
                                  have p437 : 0 ≤ (x12_3 : Int) := of_decide_eq_true (by first | (with_reducible assumption) | assumption)
                                  have q437 : x12_3 < (l0_0.length : Int) := of_decide_eq_true (by first | (with_reducible assumption) | assumption)
                                  obtain ⟨ad437, e437, hx437_0, hx437_1, hx437_2, hx437_3, hx437_4, hx437_5⟩ := at_T33 HR0_0.out x12_3 p437 q437
                                  cases e437
                                  replace hx437_0 := (HB.out.cell (World.block_lt_of_cell? w _ hx437_0)).trans hx437_0
                                  replace hx437_1 := (HB.out.cell (World.block_lt_of_cell? w _ hx437_1)).trans hx437_1
                                  replace hx437_2 := (HB.out.cell (World.block_lt_of_cell? w _ hx437_2)).trans hx437_2
                                  replace hx437_3 := (HB.out.cell (World.block_lt_of_cell? w _ hx437_3)).trans hx437_3
                                  replace hx437_4 := (HB.out.cell (World.block_lt_of_cell? w _ hx437_4)).trans hx437_4
                                  replace hx437_5 := (HB.out.cell (World.block_lt_of_cell? w _ hx437_5)).trans hx437_5
                                  replace p437 := eq_true p437
                                  replace q437 := eq_true q437
                                  have p438 : 0 ≤ (x12_3 : Int) := of_decide_eq_true (by first | (with_reducible assumption) | assumption)
                                  have q438 : x12_3 < (l0_0.length : Int) := of_decide_eq_true (by first | (with_reducible assumption) | assumption)
                                  obtain ⟨ad438, e438, hx438_0, hx438_1, hx438_2, hx438_3, hx438_4, hx438_5⟩ := at_T33 HR0_0.out x12_3 p438 q438
                                  obtain rfl : ad437 = ad438 := (by injection e438)
                                  replace hx438_0 := (HB.out.cell (World.block_lt_of_cell? w _ hx438_0)).trans hx438_0
                                  replace hx438_1 := (HB.out.cell (World.block_lt_of_cell? w _ hx438_1)).trans hx438_1
                                  replace hx438_2 := (HB.out.cell (World.block_lt_of_cell? w _ hx438_2)).trans hx438_2
                                  replace hx438_3 := (HB.out.cell (World.block_lt_of_cell? w _ hx438_3)).trans hx438_3
                                  replace hx438_4 := (HB.out.cell (World.block_lt_of_cell? w _ hx438_4)).trans hx438_4
                                  replace hx438_5 := (HB.out.cell (World.block_lt_of_cell? w _ hx438_5)).trans hx438_5
                                  replace p438 := eq_true p438
                                  replace q438 := eq_true q438
                                  have hnb185 := NB403_435.out
                                  have hnc185 := NB435_403.out
                                  have hcz186_0 : wr.cell? ⟨gb403, 0, none⟩ = some (.string a1_0) := (blk_cell BK403.out 0).trans rfl
                                  have hcz186_1 : wr.cell? ⟨gb403, 1, none⟩ = some (.bool a1_1) := (blk_cell BK403.out 1).trans rfl
                                  have hcz186_2 : wr.cell? ⟨gb403, 2, none⟩ = some (.int .i64 a1_2) := (blk_cell BK403.out 2).trans rfl
                                  have hcz186_3 : wr.cell? ⟨gb403, 3, none⟩ = some (.int .i64 a1_3) := (blk_cell BK403.out 3).trans rfl
                                  have hcz186_4 : wr.cell? ⟨gb403, 4, none⟩ = some (.int .i64 a1_4) := (blk_cell BK403.out 4).trans rfl
                                  have hcz186_5 : wr.cell? ⟨gb403, 5, none⟩ = some (.string a1_5) := (blk_cell BK403.out 5).trans rfl
                                  have hfz186_0 := blk_frozen BK403.out 0
                                  have hfz186_1 := blk_frozen BK403.out 1
                                  have hfz186_2 := blk_frozen BK403.out 2
                                  have hfz186_3 := blk_frozen BK403.out 3
                                  have hfz186_4 := blk_frozen BK403.out 4
                                  have hfz186_5 := blk_frozen BK403.out 5
                                  have p439 : 0 ≤ (x12_3 : Int) := of_decide_eq_true (by first | (with_reducible assumption) | assumption)
                                  have q439 : x12_3 < (t412.length : Int) := of_decide_eq_true (by first | (with_reducible assumption) | assumption)
                                  obtain ⟨ad439, e439, hx439_0, hx439_1, hx439_2, hx439_3, hx439_4, hx439_5⟩ := at_T33 (Kd.V_reads' HO_417000.out).2.2 x12_3 p439 q439
                                  obtain rfl : ad436 = ad439 := (by injection e439)
                                  replace p439 := eq_true p439
                                  replace q439 := eq_true q439
                                  have p440 : 0 ≤ (x12_3 : Int) := of_decide_eq_true (by first | (with_reducible assumption) | assumption)
                                  have q440 : x12_3 < (l0_0.length : Int) := of_decide_eq_true (by first | (with_reducible assumption) | assumption)
                                  obtain ⟨ad440, e440, hx440_0, hx440_1, hx440_2, hx440_3, hx440_4, hx440_5⟩ := at_T33 HR0_0.out x12_3 p440 q440
                                  obtain rfl : ad437 = ad440 := (by injection e440)
                                  replace hx440_0 := (HB.out.cell (World.block_lt_of_cell? w _ hx440_0)).trans hx440_0
                                  replace hx440_1 := (HB.out.cell (World.block_lt_of_cell? w _ hx440_1)).trans hx440_1
                                  replace hx440_2 := (HB.out.cell (World.block_lt_of_cell? w _ hx440_2)).trans hx440_2
                                  replace hx440_3 := (HB.out.cell (World.block_lt_of_cell? w _ hx440_3)).trans hx440_3
                                  replace hx440_4 := (HB.out.cell (World.block_lt_of_cell? w _ hx440_4)).trans hx440_4
                                  replace hx440_5 := (HB.out.cell (World.block_lt_of_cell? w _ hx440_5)).trans hx440_5
                                  replace p440 := eq_true p440
                                  replace q440 := eq_true q440
                                  go_wp2
                                  repeat (go_quiet (fail); try go_wp2)
                                  go_roundg k3
                                  case measure => have := HJ3.out; have := HJ102.out; have := HK3.out; omega
                                  case rel => exact ⟨(wrap64 (x12_3 + 1)), (by first | rfl | (simp; done) | (simp [*]; done)), H', ⟨by have := HJ3.out; have := HJ102.out; have := HK3.out; omega⟩, ⟨vS HO_417000.out⟩, ⟨bS BK402.out⟩, ⟨bS BK403.out⟩, ⟨bS BK416.out⟩, ⟨bS BK435.out⟩, ⟨by repeat (first | (with_reducible first | exact HB.out | apply below_alloc | apply pw_below_drewN | apply below_drew1 | refine below_set ?_ GE402.out | refine below_set ?_ GE403.out | refine below_set ?_ GE416.out | refine below_set ?_ GE435.out) | exact HB.out)⟩⟩
                            · rw [if_neg c166] at H
                              have c166b0 : (((rd_T33 t412 x12_3).f0).toList == ((rd_T33 l0_0 x12_3).f0).toList) = false := beq_eq_false_iff_ne.mpr c166
                              have c166b1 : (((rd_T33 t412 x12_3).f0).toList != ((rd_T33 l0_0 x12_3).f0).toList) = true := bne_iff_ne.mpr c166
                              exact absurd ((Option.some.inj H).trans HT.out) (by simp)
                          · rw [if_neg c165] at H
                            exact absurd H (by simp)
                        · rw [if_neg c164] at H
                          exact absurd H (by simp)
                      · rw [if_neg c163] at H
                        have c163b0 : decide (x12_3 < (l0_0.length : Int)) = false := decide_eq_false c163
                        clear c163
                        replace H := Option.bind_eq_some_iff.mp H
                        obtain ⟨t441, A1870, H⟩ := H
                        replace H : (some t441) = some r := H
                        have A187 := Aside0.mk A1870
                        clear A1870
                        obtain rfl := Option.some.inj H
                        have hnb188 := NB402_403.out
                        have hnc188 := NB403_402.out
                        have hnb189 := NB402_416.out
                        have hnc189 := NB416_402.out
                        have hnb190 := NB402_435.out
                        have hnc190 := NB435_402.out
                        have hcz191_0 : wr.cell? ⟨gb402, 0, none⟩ = some (.slice A0_0 l0_0.length c0_0) := (blk_cell BK402.out 0).trans rfl
                        have hcz191_1 : wr.cell? ⟨gb402, 1, none⟩ = some (.bool a0_1) := (blk_cell BK402.out 1).trans rfl
                        have hfz191_0 := blk_frozen BK402.out 0
                        have hfz191_1 := blk_frozen BK402.out 1
                        go_wp2_with (first | (go_at_call 10; (with_reducible refine (rollcalllaw17_live.calls k3  t441 _ A187.out).mono ?_); rintro e w192 ⟨rfl, hb⟩; replace HO_417000 := Aside0.mk (Kd.V_below (vS HO_417000.out) hb); replace BK402 := Aside0.mk (blk_below (bS BK402.out) hb); replace BK403 := Aside0.mk (blk_below (bS BK403.out) hb); replace BK416 := Aside0.mk (blk_below (bS BK416.out) hb); replace BK435 := Aside0.mk (blk_below (bS BK435.out) hb); replace HB := Aside0.mk (below_step (hS HB.out) hb); (try clear hb); (try clear hb2); (try clear hk); (try clear hi)))
                        repeat (go_quiet (first | (go_at_call 10; (with_reducible refine (rollcalllaw17_live.calls k3  t441 _ A187.out).mono ?_); rintro e w192 ⟨rfl, hb⟩; replace HO_417000 := Aside0.mk (Kd.V_below (vS HO_417000.out) hb); replace BK402 := Aside0.mk (blk_below (bS BK402.out) hb); replace BK403 := Aside0.mk (blk_below (bS BK403.out) hb); replace BK416 := Aside0.mk (blk_below (bS BK416.out) hb); replace BK435 := Aside0.mk (blk_below (bS BK435.out) hb); replace HB := Aside0.mk (below_step (hS HB.out) hb); (try clear hb); (try clear hb2); (try clear hk); (try clear hi))); try go_wp2_with (first | (go_at_call 10; (with_reducible refine (rollcalllaw17_live.calls k3  t441 _ A187.out).mono ?_); rintro e w192 ⟨rfl, hb⟩; replace HO_417000 := Aside0.mk (Kd.V_below (vS HO_417000.out) hb); replace BK402 := Aside0.mk (blk_below (bS BK402.out) hb); replace BK403 := Aside0.mk (blk_below (bS BK403.out) hb); replace BK416 := Aside0.mk (blk_below (bS BK416.out) hb); replace BK435 := Aside0.mk (blk_below (bS BK435.out) hb); replace HB := Aside0.mk (below_step (hS HB.out) hb); (try clear hb); (try clear hb2); (try clear hk); (try clear hi))))
                        go_ret
                        exact ⟨by first | rfl | (simp [errW_none, errW_some] <;> rfl) | (simp [*, errW_none, errW_some] <;> rfl), by repeat (first | (with_reducible first | exact HB.out | apply below_alloc | apply pw_below_drewN | apply below_drew1 | refine below_set ?_ GE402.out | refine below_set ?_ GE403.out | refine below_set ?_ GE416.out | refine below_set ?_ GE435.out) | exact HB.out)⟩
        · replace c49 := Bool.eq_false_iff.mpr c49
          subst c49
          have H1 : (some false) = some r := by rw [if_neg (show ¬ (false = true) by decide)] at H; exact H
          clear H
          have H := H1
          clear H1
          exact absurd ((Option.some.inj H).trans HT.out) (by simp)

/-- THE PURE STATEMENT of rollcalllaw17_QueueMay. -/
def rollcalllaw17_QueueMay.Pure : Prop := ∀ (l0_0 : List (S33)) (a0_1 : Bool) (a1_0 : ByteArray) (a1_1 : Bool) (a1_2 : Int) (a1_3 : Int) (a1_4 : Int) (a1_5 : ByteArray) (a2 : Int), l0_0.length ≤ maxLen → (∀ x_ ∈ l0_0, Ok33 x_) → a1_0.size ≤ maxLen → (Lit.int .i64 a1_2).wf = true → (Lit.int .i64 a1_3).wf = true → (Lit.int .i64 a1_4).wf = true → a1_5.size ≤ maxLen → (Lit.int .i64 a2).wf = true → ∃ k, rollcalllaw17_QueueMay.f k l0_0 a0_1 a1_0 a1_1 a1_2 a1_3 a1_4 a1_5 a2 = some true
theorem rollcalllaw17_QueueMay.walkx (P : rollcalllaw17_QueueMay.Pure) (A0_0 : Option Addr) (c0_0 : Nat) (l0_0 : List (S33)) (a0_1 : Bool) (a1_0 : ByteArray) (a1_1 : Bool) (a1_2 : Int) (a1_3 : Int) (a1_4 : Int) (a1_5 : ByteArray) (a2 : Int) (w : World) (hr0_0 : Kd.C k33 w A0_0 l0_0.length l0_0) (hc0_0 : l0_0.length ≤ c0_0) (q0 : l0_0.length ≤ maxLen) (q1 : (∀ x_ ∈ l0_0, Ok33 x_)) (q2 : a1_0.size ≤ maxLen) (q3 : (Lit.int .i64 a1_2).wf = true) (q4 : (Lit.int .i64 a1_3).wf = true) (q5 : (Lit.int .i64 a1_4).wf = true) (q6 : a1_5.size ≤ maxLen) (q7 : (Lit.int .i64 a2).wf = true) :
    Calls Try.prog 5 #[.agg #[.slice A0_0 l0_0.length c0_0, .bool a0_1], .agg #[.string a1_0, .bool a1_1, .int .i64 a1_2, .int .i64 a1_3, .int .i64 a1_4, .string a1_5], .int .i64 a2] w fun e w' => e = .returned (.bool true) ∧ Below w.heap.size w w' := by
  obtain ⟨k, h⟩ := P l0_0 a0_1 a1_0 a1_1 a1_2 a1_3 a1_4 a1_5 a2 q0 q1 q2 q3 q4 q5 q6 q7
  refine (rollcalllaw17_QueueMay.calls k A0_0 c0_0 l0_0 a0_1 a1_0 a1_1 a1_2 a1_3 a1_4 a1_5 a2 true rfl w hr0_0 hc0_0 h).mono ?_
  rintro e w' ⟨rfl, hd⟩
  exact ⟨rfl, hd⟩

end Go.Proofs.Ythcmelchgnekpaa.PA
