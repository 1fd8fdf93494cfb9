/- law10: does, of the fourth kind and of any. -/
import Derived.Test.YtejhkadalahcjaaXLaw10b
namespace Go.Proofs.Ytejhkadalahcjaa.XHeap
open Go.RowKit Go.Proofs.YtejhkadalahcjaaW.PrintWords Go.Proofs.YtejhkadalahcjaaW.PrintLast Go.Proofs.YtejhkadalahcjaaW.PrintMore Go.Proofs.Ytejhkadalahcjaa.XBetter Go.Proofs.Ytejhkadalahcjaa.XMap Go.Proofs.Ytejhkadalahcjaa.PA
set_option linter.unusedVariables false
set_option linter.unusedSimpArgs false
theorem top_calls {w : World} {base a b : Nat} {v : Value} {l : List Slot} (h : HA w base a b v l) : Calls Try.prog 11 #[.pointer (some ⟨a, 0, none⟩)] w fun e w' => e = .returned (.tuple #[.agg #[.int .i64 (at_ l 0).f0, .int .i64 (at_ l 0).f1.f0, .int .i64 (at_ l 0).f1.f1, .int .i64 (at_ l 0).f1.f2], .bool (decide (0 < l.length))]) ∧ Below w.heap.size w w' := by
  cases l with
  | nil => exact top_none h
  | cons s l => exact top_some h (by simp)
theorem rtop_calls {w : World} {base a : Nat} {v : Value} {l : List Slot} (h : RefAt w base a v l) (hl : l.length ≤ 4096) : Calls Try.prog 12 #[.pointer (some ⟨a, 0, none⟩)] w fun e w' => e = .returned (.tuple #[.agg #[.int .i64 (bestTo l (l.length - 1)).f0, .int .i64 (bestTo l (l.length - 1)).f1.f0, .int .i64 (bestTo l (l.length - 1)).f1.f1, .int .i64 (bestTo l (l.length - 1)).f1.f2], .bool (decide (0 < l.length))]) ∧ Below w.heap.size w w' := by
  cases l with
  | nil => exact rtop_none h
  | cons s l =>
    refine (rtop_some h (by simp) hl).mono ?_
    rintro e w' ⟨rfl, hb⟩
    exact ⟨by simp, hb⟩
theorem Same.top {l lr : List Slot} (h : Same l lr) : bestTo lr (lr.length - 1) = at_ l 0 ∧ lr.length = l.length := by
  have hl := h.perm.length_eq
  refine ⟨?_, hl.symm⟩
  by_cases c : 0 < l.length
  · exact (top_same h.ord h.perm c).symm
  · have e1 : l = [] := List.eq_nil_of_length_eq_zero (by omega)
    have e2 : lr = [] := List.eq_nil_of_length_eq_zero (by omega)
    subst e1; subst e2
    rfl
/-- The document's answer is the program's. -/
theorem rtop_same {w : World} {base a : Nat} {v : Value} {l lr : List Slot} (h : RefAt w base a v lr) (hS : Same l lr) : Calls Try.prog 12 #[.pointer (some ⟨a, 0, none⟩)] w fun e w' => e = .returned (.tuple #[.agg #[.int .i64 (at_ l 0).f0, .int .i64 (at_ l 0).f1.f0, .int .i64 (at_ l 0).f1.f1, .int .i64 (at_ l 0).f1.f2], .bool (decide (0 < l.length))]) ∧ Below w.heap.size w w' := by
  obtain ⟨e1, e2⟩ := hS.top
  have := rtop_calls h (by rw [e2]; exact hS.fine.len)
  rw [e1, e2] at this
  exact this
set_option maxRecDepth 100000 in
set_option maxHeartbeats 2000000 in
theorem does_top {w0 w : World} {base a b ar : Nat} {l lr : List Slot} (h : Both w base a b ar l lr) (hb : Below base w0 w) (hB : base ≤ w.heap.size) (s : Slot) (hs : i64ok s.f0) (hl : l.length < 4096) :
    Calls Try.prog 14 #[.pointer (some ⟨a, 0, none⟩), .pointer (some ⟨ar, 0, none⟩), .agg #[.int .i64 3, .int .i64 s.f0, .int .i64 s.f1.f0, .int .i64 s.f1.f1, .int .i64 s.f1.f2]] w (Does base a b ar l.length w0 w) := by
  have hW := below_alloc (Below.refl w.heap.size w) (opObj 3 s)
  have hO := heap_alloc_new w (opObj 3 s)
  replace h := h.of_below hW
  replace hb : Below base w0 (w.alloc (opObj 3 s)) := hb.trans (hW.mono hB)
  have hB' := hB
  replace hB := Nat.le_trans hB hW.size
  go_enter Try.func14, Try.ntmps14
  go_upto_region 1 with (fail)
  have hWz := hW.size
  clear hW
  unfold opObj at *
  generalize w.alloc (Obj.cells #[.int .i64 3, .int .i64 s.f0, .int .i64 s.f1.f0, .int .i64 s.f1.f1, .int .i64 s.f1.f2] 43) = W at h hb hO hB hWz ⊢
  have e0 : W.cell? ⟨w.heap.size, 0, none⟩ = some (.int .i64 3) := (blk_cell hO 0).trans rfl
  have e1 : W.cell? ⟨w.heap.size, 1, none⟩ = some (.int .i64 s.f0) := (blk_cell hO 1).trans rfl
  have hsame := h.same
  have hlen := hsame.perm.length_eq
  have HLEN := Aside0.mk hlen
  clear hlen
  clear e1
  obtain ⟨⟨v, h1⟩, ⟨vr, h2⟩, _⟩ := h
  generalize hq : decide (0 < l.length) = q
  have ht := top_calls h1
  rw [hq] at ht
  have htr : ∀ w1 : World, Below W.heap.size W w1 → _ := fun w1 hb1 => rtop_same (h2.of_below hb1) hsame
  rw [hq] at htr
  generalize at_ l 0 = t at ht htr
  clear hq
  go_wp2_with fail
  refine ht.mono ?_
  rintro e w1 ⟨rfl, b1⟩
  clear ht
  go_upto_region 12 with (fail)
  have b2 := below_alloc b1 (Obj.cells #[.int .i64 t.f0, .int .i64 t.f1.f0, .int .i64 t.f1.f1, .int .i64 t.f1.f2] 33)
  have T1 := heap_alloc_new w1 (Obj.cells #[.int .i64 t.f0, .int .i64 t.f1.f0, .int .i64 t.f1.f1, .int .i64 t.f1.f2] 33)
  generalize w1.alloc (Obj.cells #[.int .i64 t.f0, .int .i64 t.f1.f0, .int .i64 t.f1.f1, .int .i64 t.f1.f2] 33) = w2 at b2 T1 ⊢
  generalize w1.heap.size = p1 at T1 ⊢
  clear e0 b1
  go_wp2_with fail
  refine (htr w2 b2).mono ?_
  rintro e w3 ⟨rfl, b3⟩
  clear htr
  go_upto_region 13 with (fail)
  have b4 := below_alloc b3 (Obj.cells #[.int .i64 t.f0, .int .i64 t.f1.f0, .int .i64 t.f1.f1, .int .i64 t.f1.f2] 37)
  have T2 := heap_alloc_new w3 (Obj.cells #[.int .i64 t.f0, .int .i64 t.f1.f0, .int .i64 t.f1.f1, .int .i64 t.f1.f2] 37)
  generalize w3.alloc (Obj.cells #[.int .i64 t.f0, .int .i64 t.f1.f0, .int .i64 t.f1.f1, .int .i64 t.f1.f2] 37) = w4 at b4 T2 ⊢
  generalize w3.heap.size = p2 at T2 ⊢
  replace T1 := blk_below T1 b4
  have t0 : w4.cell? ⟨p1, 0, none⟩ = some (.int .i64 t.f0) := (blk_cell T1 0).trans rfl
  have t1 : w4.cell? ⟨p1, 1, none⟩ = some (.int .i64 t.f1.f0) := (blk_cell T1 1).trans rfl
  have t2 : w4.cell? ⟨p1, 2, none⟩ = some (.int .i64 t.f1.f1) := (blk_cell T1 2).trans rfl
  have t3 : w4.cell? ⟨p1, 3, none⟩ = some (.int .i64 t.f1.f2) := (blk_cell T1 3).trans rfl
  have u0 : w4.cell? ⟨p2, 0, none⟩ = some (.int .i64 t.f0) := (blk_cell T2 0).trans rfl
  have u1 : w4.cell? ⟨p2, 1, none⟩ = some (.int .i64 t.f1.f0) := (blk_cell T2 1).trans rfl
  have u2 : w4.cell? ⟨p2, 2, none⟩ = some (.int .i64 t.f1.f1) := (blk_cell T2 2).trans rfl
  have u3 : w4.cell? ⟨p2, 3, none⟩ = some (.int .i64 t.f1.f2) := (blk_cell T2 3).trans rfl
  have hbb := below_step b2 b4
  clear b3 b4 T1 T2
  go_wp2_with fail
  refine (same_calls t w4).mono ?_
  rintro e w5 ⟨rfl, b5⟩
  clear t0 t1 t2 t3 u0 u1 u2 u3
  replace hbb := below_step hbb b5
  go_wp2
  go_ret
  exact ⟨by simp, ⟨_, _, ⟨⟨_, h1.of_below hbb⟩, ⟨_, h2.of_below hbb⟩, hsame⟩, by omega⟩, hb.trans (hbb.mono hB), Nat.le_trans hWz hbb.size⟩
theorem does_calls {w0 w : World} {base a b ar : Nat} {l lr : List Slot} (h : Both w base a b ar l lr) (hb : Below base w0 w) (hB : base ≤ w.heap.size) (d : Int) (s : Slot) (hs : i64ok s.f0) (hl : l.length < 4096) :
    Calls Try.prog 14 #[.pointer (some ⟨a, 0, none⟩), .pointer (some ⟨ar, 0, none⟩), .agg #[.int .i64 d, .int .i64 s.f0, .int .i64 s.f1.f0, .int .i64 s.f1.f1, .int .i64 s.f1.f2]] w (Does base a b ar l.length w0 w) := by
  by_cases d0 : d = 0
  · subst d0; exact does_put h hb hB s hs hl
  · by_cases d1 : d = 1
    · subst d1; exact does_drop h hb hB s hs hl
    · by_cases d2 : d = 2
      · subst d2; exact does_get h hb hB s hs hl
      · by_cases d3 : d = 3
        · subst d3; exact does_top h hb hB s hs hl
        · exact does_other h hb hB s hs hl d d0 d1 d2 d3
end Go.Proofs.Ytejhkadalahcjaa.XHeap
