/- law10's HeapNil, walked: a nil heap has nothing. -/
import Derived.Test.YtejhkadalahcjaaXLive10
namespace Go.Proofs.Ytejhkadalahcjaa.XHand
open Go.RowKit Go.Proofs.YtejhkadalahcjaaW.PrintWords Go.Proofs.YtejhkadalahcjaaW.PrintLast Go.Proofs.YtejhkadalahcjaaW.PrintMore Go.Proofs.Ytejhkadalahcjaa.XBetter Go.Proofs.Ytejhkadalahcjaa.XMap Go.Proofs.Ytejhkadalahcjaa.PA Go.Proofs.Ytejhkadalahcjaa.XHeap
set_option linter.unusedVariables false
set_option linter.unusedSimpArgs false
set_option maxRecDepth 100000 in
set_option maxHeartbeats 2000000 in
theorem heapNil_walk (a0 r0 r1 r2 : Int) (w : World) (q0 : (Lit.int .i64 a0).wf = true) (q1 : (Lit.int .i64 r0).wf = true) (q2 : (Lit.int .i64 r1).wf = true) (q3 : (Lit.int .i64 r2).wf = true) :
    Calls Try.prog 7 #[.int .i64 a0, .agg #[.int .i64 r0, .int .i64 r1, .int .i64 r2]] w fun e w' => e = .returned (.bool true) ∧ Below w.heap.size w w' := by
  clear q0 q1 q2 q3
  go_enter Try.func7, Try.ntmps7
  go_upto_region 1 with (fail)
  have b1 := below_alloc (Below.refl w.heap.size w) (Obj.cells #[.int .i64 r0, .int .i64 r1, .int .i64 r2] 30)
  have T1 := heap_alloc_new w (Obj.cells #[.int .i64 r0, .int .i64 r1, .int .i64 r2] 30)
  generalize w.alloc (Obj.cells #[.int .i64 r0, .int .i64 r1, .int .i64 r2] 30) = w1 at b1 T1 ⊢
  go_wp2_with fail
  refine (nil_top w1).mono ?_
  rintro e w2 ⟨rfl, b2⟩
  go_upto_region 3 with (fail)
  have b3 := below_alloc b2 (Obj.cells #[.int .i64 0, .int .i64 0, .int .i64 0, .int .i64 0] 33)
  generalize w2.alloc (Obj.cells #[.int .i64 0, .int .i64 0, .int .i64 0, .int .i64 0] 33) = w3 at b3 ⊢
  go_wp2_with fail
  refine (nil_get a0 w3).mono ?_
  rintro e w4 ⟨rfl, b4⟩
  go_upto_region 4 with (fail)
  have b5 := below_alloc b4 (Obj.cells #[.int .i64 0, .int .i64 0, .int .i64 0] 31)
  generalize w4.alloc (Obj.cells #[.int .i64 0, .int .i64 0, .int .i64 0] 31) = w5 at b5 ⊢
  have b6 := below_step b1 (below_step b3 b5)
  have T5 := blk_below T1 (below_step b3 b5)
  clear T1 b1 b2 b3 b4 b5
  have e0 : w5.cell? ⟨w.heap.size, 0, none⟩ = some (.int .i64 r0) := (blk_cell T5 0).trans rfl
  have e1 : w5.cell? ⟨w.heap.size, 1, none⟩ = some (.int .i64 r1) := (blk_cell T5 1).trans rfl
  have e2 : w5.cell? ⟨w.heap.size, 2, none⟩ = some (.int .i64 r2) := (blk_cell T5 2).trans rfl
  clear T5
  go_wp2_with fail
  refine (nil_put a0 r0 r1 r2 w5).mono ?_
  rintro e w6 ⟨rfl, b7⟩
  clear e0 e1 e2
  go_wp2_with fail
  refine (nil_drop a0 w6).mono ?_
  rintro e w7 ⟨rfl, rfl⟩
  go_wp2_with fail
  refine (nil_slots w7).mono ?_
  rintro e w8 ⟨rfl, rfl⟩
  go_wp2_with fail
  refine (nil_len w8).mono ?_
  rintro e w9 ⟨rfl, rfl⟩
  go_wp2_with fail
  refine (live_calls w9).mono ?_
  rintro e w10 ⟨rfl, b8⟩
  go_wp2
  go_ret
  exact ⟨rfl, below_step b6 (below_step b7 b8)⟩
end Go.Proofs.Ytejhkadalahcjaa.XHand
