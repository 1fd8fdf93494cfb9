/- law10's HeapOrder, walked: of two slots of unlike ids just one is better; who is better than one who is better is better. -/
import Derived.Test.YtejhkadalahcjaaXEq10
namespace Go.Proofs.Ytejhkadalahcjaa.XHand
open Go.RowKit Go.Proofs.YtejhkadalahcjaaW.PrintWords Go.Proofs.YtejhkadalahcjaaW.PrintLast Go.Proofs.YtejhkadalahcjaaW.PrintMore Go.Proofs.Ytejhkadalahcjaa.XBetter Go.Proofs.Ytejhkadalahcjaa.XMap Go.Proofs.Ytejhkadalahcjaa.PA Go.Proofs.Ytejhkadalahcjaa.XHeap
set_option linter.unusedVariables false
set_option linter.unusedSimpArgs false
attribute [local go_sem high] eqSl
theorem three_new (w : World) (A B C : Obj) : Below w.heap.size w (((w.alloc A).alloc B).alloc C) ∧ (((w.alloc A).alloc B).alloc C).heap[w.heap.size]? = some A ∧ (((w.alloc A).alloc B).alloc C).heap[w.heap.size + 1]? = some B ∧ (((w.alloc A).alloc B).alloc C).heap[w.heap.size + 1 + 1]? = some C := by
  obtain ⟨h1, h2, h3⟩ := two_new2 w A B
  have h4 := heap_alloc_new ((w.alloc A).alloc B) C
  have hz : ((w.alloc A).alloc B).heap.size = w.heap.size + 1 + 1 := by simp
  rw [hz] at h4
  exact ⟨below_alloc h1 C, blk_below h2 (below_alloc (Below.refl _ _) C), blk_below h3 (below_alloc (Below.refl _ _) C), h4⟩
set_option maxRecDepth 100000 in
set_option maxHeartbeats 8000000 in
theorem order_walk (s0 s1 s2 : Slot) (w : World) :
    Calls Try.prog 6 #[.agg #[.int .i64 s0.f0, .int .i64 s1.f0, .int .i64 s2.f0], .agg #[.int .i64 s0.f1.f0, .int .i64 s0.f1.f1, .int .i64 s0.f1.f2, .int .i64 s1.f1.f0, .int .i64 s1.f1.f1, .int .i64 s1.f1.f2, .int .i64 s2.f1.f0, .int .i64 s2.f1.f1, .int .i64 s2.f1.f2]] w fun e w' => e = .returned (.bool true) ∧ Below w.heap.size w w' := by
  obtain ⟨hb, hI, hK, hP⟩ := three_new w (Obj.cells #[.int .i64 s0.f0, .int .i64 s1.f0, .int .i64 s2.f0] 30) (Obj.cells #[.int .i64 s0.f1.f0, .int .i64 s0.f1.f1, .int .i64 s0.f1.f2, .int .i64 s1.f1.f0, .int .i64 s1.f1.f1, .int .i64 s1.f1.f2, .int .i64 s2.f1.f0, .int .i64 s2.f1.f1, .int .i64 s2.f1.f2] 55) (Obj.cells #[.int .i64 0, .int .i64 0, .int .i64 0, .int .i64 0, .int .i64 0, .int .i64 0, .int .i64 0, .int .i64 0, .int .i64 0, .int .i64 0, .int .i64 0, .int .i64 0] 56)
  go_enter Try.func6, Try.ntmps6
  go_upto_region 2 with (fail)
  generalize ((w.alloc (Obj.cells #[.int .i64 s0.f0, .int .i64 s1.f0, .int .i64 s2.f0] 30)).alloc (Obj.cells #[.int .i64 s0.f1.f0, .int .i64 s0.f1.f1, .int .i64 s0.f1.f2, .int .i64 s1.f1.f0, .int .i64 s1.f1.f1, .int .i64 s1.f1.f2, .int .i64 s2.f1.f0, .int .i64 s2.f1.f1, .int .i64 s2.f1.f2] 55)).alloc (Obj.cells #[.int .i64 0, .int .i64 0, .int .i64 0, .int .i64 0, .int .i64 0, .int .i64 0, .int .i64 0, .int .i64 0, .int .i64 0, .int .i64 0, .int .i64 0, .int .i64 0] 56) = W at hb hI hK hP ⊢
  have n1 : w.heap.size ≠ w.heap.size + 1 := by omega
  have n2 : w.heap.size ≠ w.heap.size + 1 + 1 := by omega
  have n3 : w.heap.size + 1 ≠ w.heap.size + 1 + 1 := by omega
  have n4 : w.heap.size ≤ w.heap.size + 1 + 1 := by omega
  generalize w.heap.size + 1 + 1 = p2 at hP n2 n3 n4 ⊢
  generalize w.heap.size + 1 = p1 at hK n1 n3 ⊢
  have m1 := n1.symm
  have m2 := n2.symm
  have m3 := n3.symm
  go_wp2_with fail
  refine wp_loop_rounds 4 ?_
  rw [rounds_succ]
  have i0 : W.cell? ⟨w.heap.size, 0, none⟩ = some (.int .i64 s0.f0) := (blk_cell hI 0).trans rfl
  have k0 : W.cell? ⟨p1, 0, none⟩ = some (.int .i64 s0.f1.f0) := (blk_cell hK 0).trans rfl
  have k1 : W.cell? ⟨p1, 1, none⟩ = some (.int .i64 s0.f1.f1) := (blk_cell hK 1).trans rfl
  have k2 : W.cell? ⟨p1, 2, none⟩ = some (.int .i64 s0.f1.f2) := (blk_cell hK 2).trans rfl
  have a0 : W.cell? ⟨p2, 0, none⟩ = some (.int .i64 0) := (blk_cell hP 0).trans rfl
  have a1 : W.cell? ⟨p2, 1, none⟩ = some (.int .i64 0) := (blk_cell hP 1).trans rfl
  have a2 : W.cell? ⟨p2, 2, none⟩ = some (.int .i64 0) := (blk_cell hP 2).trans rfl
  have a3 : W.cell? ⟨p2, 3, none⟩ = some (.int .i64 0) := (blk_cell hP 3).trans rfl
  have z0 := blk_frozen hP 0
  have z1 := blk_frozen hP 1
  have z2 := blk_frozen hP 2
  have z3 := blk_frozen hP 3
  go_wp2
  go_region_held3 (fun w' => w'.cell? ⟨w.heap.size, 0, none⟩ = some (.int .i64 s0.f0) ∧ w'.cell? ⟨p1, 0, none⟩ = some (.int .i64 s0.f1.f0) ∧ w'.cell? ⟨p1, 1, none⟩ = some (.int .i64 s0.f1.f1) ∧ w'.cell? ⟨p1, 2, none⟩ = some (.int .i64 s0.f1.f2)) (go_keep) (fail)
  replace hP : ((((W.setCell ⟨p2, 0, none⟩ (.int .i64 s0.f0)).setCell ⟨p2, 1, none⟩ (.int .i64 s0.f1.f0)).setCell ⟨p2, 2, none⟩ (.int .i64 s0.f1.f1)).setCell ⟨p2, 3, none⟩ (.int .i64 s0.f1.f2)).drew.heap[p2]? = some (Obj.cells #[.int .i64 s0.f0, .int .i64 s0.f1.f0, .int .i64 s0.f1.f1, .int .i64 s0.f1.f2, .int .i64 0, .int .i64 0, .int .i64 0, .int .i64 0, .int .i64 0, .int .i64 0, .int .i64 0, .int .i64 0] 56 (0, 0)) := (blk_set (blk_set (blk_set (blk_set hP 0 _) 1 _) 2 _) 3 _)
  replace hI : ((((W.setCell ⟨p2, 0, none⟩ (.int .i64 s0.f0)).setCell ⟨p2, 1, none⟩ (.int .i64 s0.f1.f0)).setCell ⟨p2, 2, none⟩ (.int .i64 s0.f1.f1)).setCell ⟨p2, 3, none⟩ (.int .i64 s0.f1.f2)).drew.heap[w.heap.size]? = some _ := (blk_far (blk_far (blk_far (blk_far hI n2 _) n2 _) n2 _) n2 _)
  replace hK : ((((W.setCell ⟨p2, 0, none⟩ (.int .i64 s0.f0)).setCell ⟨p2, 1, none⟩ (.int .i64 s0.f1.f0)).setCell ⟨p2, 2, none⟩ (.int .i64 s0.f1.f1)).setCell ⟨p2, 3, none⟩ (.int .i64 s0.f1.f2)).drew.heap[p1]? = some _ := (blk_far (blk_far (blk_far (blk_far hK n3 _) n3 _) n3 _) n3 _)
  replace hb : Below w.heap.size w ((((W.setCell ⟨p2, 0, none⟩ (.int .i64 s0.f0)).setCell ⟨p2, 1, none⟩ (.int .i64 s0.f1.f0)).setCell ⟨p2, 2, none⟩ (.int .i64 s0.f1.f1)).setCell ⟨p2, 3, none⟩ (.int .i64 s0.f1.f2)).drew := below_drew1 (below_set (below_set (below_set (below_set hb n4) n4) n4) n4)
  clear i0 k0 k1 k2 a0 a1 a2 a3 z0 z1 z2 z3
  (try clear hHeld)
  generalize ((((W.setCell ⟨p2, 0, none⟩ (.int .i64 s0.f0)).setCell ⟨p2, 1, none⟩ (.int .i64 s0.f1.f0)).setCell ⟨p2, 2, none⟩ (.int .i64 s0.f1.f1)).setCell ⟨p2, 3, none⟩ (.int .i64 s0.f1.f2)).drew = W0 at hb hI hK hP ⊢
  go_wp2_with fail
  rw [rounds_succ]
  have i1 : W0.cell? ⟨w.heap.size, 1, none⟩ = some (.int .i64 s1.f0) := (blk_cell hI 1).trans rfl
  have k0 : W0.cell? ⟨p1, 3, none⟩ = some (.int .i64 s1.f1.f0) := (blk_cell hK 3).trans rfl
  have k1 : W0.cell? ⟨p1, 4, none⟩ = some (.int .i64 s1.f1.f1) := (blk_cell hK 4).trans rfl
  have k2 : W0.cell? ⟨p1, 5, none⟩ = some (.int .i64 s1.f1.f2) := (blk_cell hK 5).trans rfl
  have a0 : W0.cell? ⟨p2, 4, none⟩ = some (.int .i64 0) := (blk_cell hP 4).trans rfl
  have a1 : W0.cell? ⟨p2, 5, none⟩ = some (.int .i64 0) := (blk_cell hP 5).trans rfl
  have a2 : W0.cell? ⟨p2, 6, none⟩ = some (.int .i64 0) := (blk_cell hP 6).trans rfl
  have a3 : W0.cell? ⟨p2, 7, none⟩ = some (.int .i64 0) := (blk_cell hP 7).trans rfl
  have z0 := blk_frozen hP 4
  have z1 := blk_frozen hP 5
  have z2 := blk_frozen hP 6
  have z3 := blk_frozen hP 7
  go_wp2
  go_region_held3 (fun w' => w'.cell? ⟨w.heap.size, 1, none⟩ = some (.int .i64 s1.f0) ∧ w'.cell? ⟨p1, 3, none⟩ = some (.int .i64 s1.f1.f0) ∧ w'.cell? ⟨p1, 4, none⟩ = some (.int .i64 s1.f1.f1) ∧ w'.cell? ⟨p1, 5, none⟩ = some (.int .i64 s1.f1.f2)) (go_keep) (fail)
  replace hP : ((((W0.setCell ⟨p2, 4, none⟩ (.int .i64 s1.f0)).setCell ⟨p2, 5, none⟩ (.int .i64 s1.f1.f0)).setCell ⟨p2, 6, none⟩ (.int .i64 s1.f1.f1)).setCell ⟨p2, 7, none⟩ (.int .i64 s1.f1.f2)).drew.heap[p2]? = some (Obj.cells #[.int .i64 s0.f0, .int .i64 s0.f1.f0, .int .i64 s0.f1.f1, .int .i64 s0.f1.f2, .int .i64 s1.f0, .int .i64 s1.f1.f0, .int .i64 s1.f1.f1, .int .i64 s1.f1.f2, .int .i64 0, .int .i64 0, .int .i64 0, .int .i64 0] 56 (0, 0)) := (blk_set (blk_set (blk_set (blk_set hP 4 _) 5 _) 6 _) 7 _)
  replace hI : ((((W0.setCell ⟨p2, 4, none⟩ (.int .i64 s1.f0)).setCell ⟨p2, 5, none⟩ (.int .i64 s1.f1.f0)).setCell ⟨p2, 6, none⟩ (.int .i64 s1.f1.f1)).setCell ⟨p2, 7, none⟩ (.int .i64 s1.f1.f2)).drew.heap[w.heap.size]? = some _ := (blk_far (blk_far (blk_far (blk_far hI n2 _) n2 _) n2 _) n2 _)
  replace hK : ((((W0.setCell ⟨p2, 4, none⟩ (.int .i64 s1.f0)).setCell ⟨p2, 5, none⟩ (.int .i64 s1.f1.f0)).setCell ⟨p2, 6, none⟩ (.int .i64 s1.f1.f1)).setCell ⟨p2, 7, none⟩ (.int .i64 s1.f1.f2)).drew.heap[p1]? = some _ := (blk_far (blk_far (blk_far (blk_far hK n3 _) n3 _) n3 _) n3 _)
  replace hb : Below w.heap.size w ((((W0.setCell ⟨p2, 4, none⟩ (.int .i64 s1.f0)).setCell ⟨p2, 5, none⟩ (.int .i64 s1.f1.f0)).setCell ⟨p2, 6, none⟩ (.int .i64 s1.f1.f1)).setCell ⟨p2, 7, none⟩ (.int .i64 s1.f1.f2)).drew := below_drew1 (below_set (below_set (below_set (below_set hb n4) n4) n4) n4)
  clear i1 k0 k1 k2 a0 a1 a2 a3 z0 z1 z2 z3
  (try clear hHeld)
  generalize ((((W0.setCell ⟨p2, 4, none⟩ (.int .i64 s1.f0)).setCell ⟨p2, 5, none⟩ (.int .i64 s1.f1.f0)).setCell ⟨p2, 6, none⟩ (.int .i64 s1.f1.f1)).setCell ⟨p2, 7, none⟩ (.int .i64 s1.f1.f2)).drew = W1 at hb hI hK hP ⊢
  go_wp2_with fail
  rw [rounds_succ]
  have i2 : W1.cell? ⟨w.heap.size, 2, none⟩ = some (.int .i64 s2.f0) := (blk_cell hI 2).trans rfl
  have k0 : W1.cell? ⟨p1, 6, none⟩ = some (.int .i64 s2.f1.f0) := (blk_cell hK 6).trans rfl
  have k1 : W1.cell? ⟨p1, 7, none⟩ = some (.int .i64 s2.f1.f1) := (blk_cell hK 7).trans rfl
  have k2 : W1.cell? ⟨p1, 8, none⟩ = some (.int .i64 s2.f1.f2) := (blk_cell hK 8).trans rfl
  have a0 : W1.cell? ⟨p2, 8, none⟩ = some (.int .i64 0) := (blk_cell hP 8).trans rfl
  have a1 : W1.cell? ⟨p2, 9, none⟩ = some (.int .i64 0) := (blk_cell hP 9).trans rfl
  have a2 : W1.cell? ⟨p2, 10, none⟩ = some (.int .i64 0) := (blk_cell hP 10).trans rfl
  have a3 : W1.cell? ⟨p2, 11, none⟩ = some (.int .i64 0) := (blk_cell hP 11).trans rfl
  have z0 := blk_frozen hP 8
  have z1 := blk_frozen hP 9
  have z2 := blk_frozen hP 10
  have z3 := blk_frozen hP 11
  go_wp2
  go_region_held3 (fun w' => w'.cell? ⟨w.heap.size, 2, none⟩ = some (.int .i64 s2.f0) ∧ w'.cell? ⟨p1, 6, none⟩ = some (.int .i64 s2.f1.f0) ∧ w'.cell? ⟨p1, 7, none⟩ = some (.int .i64 s2.f1.f1) ∧ w'.cell? ⟨p1, 8, none⟩ = some (.int .i64 s2.f1.f2)) (go_keep) (fail)
  replace hP : ((((W1.setCell ⟨p2, 8, none⟩ (.int .i64 s2.f0)).setCell ⟨p2, 9, none⟩ (.int .i64 s2.f1.f0)).setCell ⟨p2, 10, none⟩ (.int .i64 s2.f1.f1)).setCell ⟨p2, 11, none⟩ (.int .i64 s2.f1.f2)).drew.heap[p2]? = some (Obj.cells #[.int .i64 s0.f0, .int .i64 s0.f1.f0, .int .i64 s0.f1.f1, .int .i64 s0.f1.f2, .int .i64 s1.f0, .int .i64 s1.f1.f0, .int .i64 s1.f1.f1, .int .i64 s1.f1.f2, .int .i64 s2.f0, .int .i64 s2.f1.f0, .int .i64 s2.f1.f1, .int .i64 s2.f1.f2] 56 (0, 0)) := (blk_set (blk_set (blk_set (blk_set hP 8 _) 9 _) 10 _) 11 _)
  replace hI : ((((W1.setCell ⟨p2, 8, none⟩ (.int .i64 s2.f0)).setCell ⟨p2, 9, none⟩ (.int .i64 s2.f1.f0)).setCell ⟨p2, 10, none⟩ (.int .i64 s2.f1.f1)).setCell ⟨p2, 11, none⟩ (.int .i64 s2.f1.f2)).drew.heap[w.heap.size]? = some _ := (blk_far (blk_far (blk_far (blk_far hI n2 _) n2 _) n2 _) n2 _)
  replace hK : ((((W1.setCell ⟨p2, 8, none⟩ (.int .i64 s2.f0)).setCell ⟨p2, 9, none⟩ (.int .i64 s2.f1.f0)).setCell ⟨p2, 10, none⟩ (.int .i64 s2.f1.f1)).setCell ⟨p2, 11, none⟩ (.int .i64 s2.f1.f2)).drew.heap[p1]? = some _ := (blk_far (blk_far (blk_far (blk_far hK n3 _) n3 _) n3 _) n3 _)
  replace hb : Below w.heap.size w ((((W1.setCell ⟨p2, 8, none⟩ (.int .i64 s2.f0)).setCell ⟨p2, 9, none⟩ (.int .i64 s2.f1.f0)).setCell ⟨p2, 10, none⟩ (.int .i64 s2.f1.f1)).setCell ⟨p2, 11, none⟩ (.int .i64 s2.f1.f2)).drew := below_drew1 (below_set (below_set (below_set (below_set hb n4) n4) n4) n4)
  clear i2 k0 k1 k2 a0 a1 a2 a3 z0 z1 z2 z3
  (try clear hHeld)
  generalize ((((W1.setCell ⟨p2, 8, none⟩ (.int .i64 s2.f0)).setCell ⟨p2, 9, none⟩ (.int .i64 s2.f1.f0)).setCell ⟨p2, 10, none⟩ (.int .i64 s2.f1.f1)).setCell ⟨p2, 11, none⟩ (.int .i64 s2.f1.f2)).drew = W2 at hb hI hK hP ⊢
  go_wp2_with fail
  rw [rounds_succ]
  clear hI hK
  have a0 : W2.cell? ⟨p2, 0, none⟩ = some (.int .i64 (s0.f0)) := (blk_cell hP 0).trans rfl
  have a1 : W2.cell? ⟨p2, 1, none⟩ = some (.int .i64 (s0.f1.f0)) := (blk_cell hP 1).trans rfl
  have a2 : W2.cell? ⟨p2, 2, none⟩ = some (.int .i64 (s0.f1.f1)) := (blk_cell hP 2).trans rfl
  have a3 : W2.cell? ⟨p2, 3, none⟩ = some (.int .i64 (s0.f1.f2)) := (blk_cell hP 3).trans rfl
  have a4 : W2.cell? ⟨p2, 4, none⟩ = some (.int .i64 (s1.f0)) := (blk_cell hP 4).trans rfl
  have a5 : W2.cell? ⟨p2, 5, none⟩ = some (.int .i64 (s1.f1.f0)) := (blk_cell hP 5).trans rfl
  have a6 : W2.cell? ⟨p2, 6, none⟩ = some (.int .i64 (s1.f1.f1)) := (blk_cell hP 6).trans rfl
  have a7 : W2.cell? ⟨p2, 7, none⟩ = some (.int .i64 (s1.f1.f2)) := (blk_cell hP 7).trans rfl
  have a8 : W2.cell? ⟨p2, 8, none⟩ = some (.int .i64 (s2.f0)) := (blk_cell hP 8).trans rfl
  have a9 : W2.cell? ⟨p2, 9, none⟩ = some (.int .i64 (s2.f1.f0)) := (blk_cell hP 9).trans rfl
  have a10 : W2.cell? ⟨p2, 10, none⟩ = some (.int .i64 (s2.f1.f1)) := (blk_cell hP 10).trans rfl
  have a11 : W2.cell? ⟨p2, 11, none⟩ = some (.int .i64 (s2.f1.f2)) := (blk_cell hP 11).trans rfl
  go_wp2_with fail
  refine (bet_calls s0 s1 W2).mono ?_
  rintro e w4 ⟨rfl, b4⟩
  replace hP := blk_below hP b4
  replace hb := below_step hb b4
  clear b4 a0 a1 a2 a3 a4 a5 a6 a7 a8 a9 a10 a11
  have a0 : w4.cell? ⟨p2, 0, none⟩ = some (.int .i64 (s0.f0)) := (blk_cell hP 0).trans rfl
  have a1 : w4.cell? ⟨p2, 1, none⟩ = some (.int .i64 (s0.f1.f0)) := (blk_cell hP 1).trans rfl
  have a2 : w4.cell? ⟨p2, 2, none⟩ = some (.int .i64 (s0.f1.f1)) := (blk_cell hP 2).trans rfl
  have a3 : w4.cell? ⟨p2, 3, none⟩ = some (.int .i64 (s0.f1.f2)) := (blk_cell hP 3).trans rfl
  have a4 : w4.cell? ⟨p2, 4, none⟩ = some (.int .i64 (s1.f0)) := (blk_cell hP 4).trans rfl
  have a5 : w4.cell? ⟨p2, 5, none⟩ = some (.int .i64 (s1.f1.f0)) := (blk_cell hP 5).trans rfl
  have a6 : w4.cell? ⟨p2, 6, none⟩ = some (.int .i64 (s1.f1.f1)) := (blk_cell hP 6).trans rfl
  have a7 : w4.cell? ⟨p2, 7, none⟩ = some (.int .i64 (s1.f1.f2)) := (blk_cell hP 7).trans rfl
  have a8 : w4.cell? ⟨p2, 8, none⟩ = some (.int .i64 (s2.f0)) := (blk_cell hP 8).trans rfl
  have a9 : w4.cell? ⟨p2, 9, none⟩ = some (.int .i64 (s2.f1.f0)) := (blk_cell hP 9).trans rfl
  have a10 : w4.cell? ⟨p2, 10, none⟩ = some (.int .i64 (s2.f1.f1)) := (blk_cell hP 10).trans rfl
  have a11 : w4.cell? ⟨p2, 11, none⟩ = some (.int .i64 (s2.f1.f2)) := (blk_cell hP 11).trans rfl
  go_wp2_with fail
  refine (bet_calls s1 s0 w4).mono ?_
  rintro e w5 ⟨rfl, b5⟩
  replace hP := blk_below hP b5
  replace hb := below_step hb b5
  clear b5 a0 a1 a2 a3 a4 a5 a6 a7 a8 a9 a10 a11
  have a0 : w5.cell? ⟨p2, 0, none⟩ = some (.int .i64 (s0.f0)) := (blk_cell hP 0).trans rfl
  have a1 : w5.cell? ⟨p2, 1, none⟩ = some (.int .i64 (s0.f1.f0)) := (blk_cell hP 1).trans rfl
  have a2 : w5.cell? ⟨p2, 2, none⟩ = some (.int .i64 (s0.f1.f1)) := (blk_cell hP 2).trans rfl
  have a3 : w5.cell? ⟨p2, 3, none⟩ = some (.int .i64 (s0.f1.f2)) := (blk_cell hP 3).trans rfl
  have a4 : w5.cell? ⟨p2, 4, none⟩ = some (.int .i64 (s1.f0)) := (blk_cell hP 4).trans rfl
  have a5 : w5.cell? ⟨p2, 5, none⟩ = some (.int .i64 (s1.f1.f0)) := (blk_cell hP 5).trans rfl
  have a6 : w5.cell? ⟨p2, 6, none⟩ = some (.int .i64 (s1.f1.f1)) := (blk_cell hP 6).trans rfl
  have a7 : w5.cell? ⟨p2, 7, none⟩ = some (.int .i64 (s1.f1.f2)) := (blk_cell hP 7).trans rfl
  have a8 : w5.cell? ⟨p2, 8, none⟩ = some (.int .i64 (s2.f0)) := (blk_cell hP 8).trans rfl
  have a9 : w5.cell? ⟨p2, 9, none⟩ = some (.int .i64 (s2.f1.f0)) := (blk_cell hP 9).trans rfl
  have a10 : w5.cell? ⟨p2, 10, none⟩ = some (.int .i64 (s2.f1.f1)) := (blk_cell hP 10).trans rfl
  have a11 : w5.cell? ⟨p2, 11, none⟩ = some (.int .i64 (s2.f1.f2)) := (blk_cell hP 11).trans rfl
  have tail : True := trivial
  by_cases hs : s0 = s1
  · subst hs
    have h01 := bet_irr s0
    go_wp2_with fail
    refine (live_calls w5).mono ?_
    rintro e w7 ⟨rfl, b7⟩
    go_wp2
    go_ret
    exact ⟨rfl, below_step hb b7⟩
  · have hE := slot_eq_false hs
    cases h01 : bet s0 s1 with
    | false =>
      have h10 : bet s1 s0 = true := by
        cases h : bet s1 s0 with
        | true => rfl
        | false => exact absurd (bet_eq h01 h) hs
      clear hs
      go_wp2_with fail
      refine (live_calls w5).mono ?_
      rintro e w7 ⟨rfl, b7⟩
      go_wp2
      go_ret
      exact ⟨rfl, below_step hb b7⟩
    | true =>
      have h10 := bet_asym h01
      clear hs
      go_wp2_with fail
      refine (bet_calls s1 s2 w5).mono ?_
      rintro e w6 ⟨rfl, b6⟩
      replace hP := blk_below hP b6
      replace hb := below_step hb b6
      clear b6 a0 a1 a2 a3 a4 a5 a6 a7 a8 a9 a10 a11
      have a0 : w6.cell? ⟨p2, 0, none⟩ = some (.int .i64 (s0.f0)) := (blk_cell hP 0).trans rfl
      have a1 : w6.cell? ⟨p2, 1, none⟩ = some (.int .i64 (s0.f1.f0)) := (blk_cell hP 1).trans rfl
      have a2 : w6.cell? ⟨p2, 2, none⟩ = some (.int .i64 (s0.f1.f1)) := (blk_cell hP 2).trans rfl
      have a3 : w6.cell? ⟨p2, 3, none⟩ = some (.int .i64 (s0.f1.f2)) := (blk_cell hP 3).trans rfl
      have a4 : w6.cell? ⟨p2, 4, none⟩ = some (.int .i64 (s1.f0)) := (blk_cell hP 4).trans rfl
      have a5 : w6.cell? ⟨p2, 5, none⟩ = some (.int .i64 (s1.f1.f0)) := (blk_cell hP 5).trans rfl
      have a6 : w6.cell? ⟨p2, 6, none⟩ = some (.int .i64 (s1.f1.f1)) := (blk_cell hP 6).trans rfl
      have a7 : w6.cell? ⟨p2, 7, none⟩ = some (.int .i64 (s1.f1.f2)) := (blk_cell hP 7).trans rfl
      have a8 : w6.cell? ⟨p2, 8, none⟩ = some (.int .i64 (s2.f0)) := (blk_cell hP 8).trans rfl
      have a9 : w6.cell? ⟨p2, 9, none⟩ = some (.int .i64 (s2.f1.f0)) := (blk_cell hP 9).trans rfl
      have a10 : w6.cell? ⟨p2, 10, none⟩ = some (.int .i64 (s2.f1.f1)) := (blk_cell hP 10).trans rfl
      have a11 : w6.cell? ⟨p2, 11, none⟩ = some (.int .i64 (s2.f1.f2)) := (blk_cell hP 11).trans rfl
      cases hb12 : bet s1 s2 with
      | false =>
        go_wp2_with fail
        refine (live_calls w6).mono ?_
        rintro e w7 ⟨rfl, b7⟩
        go_wp2
        go_ret
        exact ⟨rfl, below_step hb b7⟩
      | true =>
        have h02 := bet_trans h01 hb12
        go_wp2_with fail
        refine (bet_calls s0 s2 w6).mono ?_
        rintro e w7 ⟨rfl, b7⟩
        replace hb := below_step hb b7
        clear b7 a0 a1 a2 a3 a4 a5 a6 a7 a8 a9 a10 a11
        go_wp2_with fail
        refine (live_calls w7).mono ?_
        rintro e w8 ⟨rfl, b8⟩
        go_wp2
        go_ret
        exact ⟨rfl, below_step hb b8⟩
theorem heapOrder_walk (i0 i1 i2 r00 r01 r02 r10 r11 r12 r20 r21 r22 : Int) (w : World) (q0 : (Lit.int .i64 i0).wf = true) (q1 : (Lit.int .i64 i1).wf = true) (q2 : (Lit.int .i64 i2).wf = true) (p00 : (Lit.int .i64 r00).wf = true) (p01 : (Lit.int .i64 r01).wf = true) (p02 : (Lit.int .i64 r02).wf = true) (p10 : (Lit.int .i64 r10).wf = true) (p11 : (Lit.int .i64 r11).wf = true) (p12 : (Lit.int .i64 r12).wf = true) (p20 : (Lit.int .i64 r20).wf = true) (p21 : (Lit.int .i64 r21).wf = true) (p22 : (Lit.int .i64 r22).wf = true) :
    Calls Try.prog 6 #[.agg #[.int .i64 i0, .int .i64 i1, .int .i64 i2], .agg #[.int .i64 r00, .int .i64 r01, .int .i64 r02, .int .i64 r10, .int .i64 r11, .int .i64 r12, .int .i64 r20, .int .i64 r21, .int .i64 r22]] w fun e w' => e = .returned (.bool true) ∧ Below w.heap.size w w' :=
  order_walk ⟨i0, ⟨r00, r01, r02⟩⟩ ⟨i1, ⟨r10, r11, r12⟩⟩ ⟨i2, ⟨r20, r21, r22⟩⟩ w
end Go.Proofs.Ytejhkadalahcjaa.XHand
