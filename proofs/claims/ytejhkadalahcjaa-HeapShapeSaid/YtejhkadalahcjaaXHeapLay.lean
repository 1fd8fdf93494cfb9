/- heap.Heap, walked: lay, swap. -/
import Derived.Test.YtejhkadalahcjaaXHeap
namespace Go.Proofs.Ytejhkadalahcjaa.XHeap
open Go.RowKit Go.Proofs.YtejhkadalahcjaaW.PrintWords Go.Proofs.YtejhkadalahcjaaW.PrintLast Go.Proofs.YtejhkadalahcjaaW.PrintMore Go.Proofs.Ytejhkadalahcjaa.XBetter Go.Proofs.Ytejhkadalahcjaa.XMap Go.Proofs.Ytejhkadalahcjaa.PA
set_option linter.unusedVariables false
set_option linter.unusedSimpArgs false
set_option maxRecDepth 100000 in
theorem lay_calls {w : World} {base a b n g c m : Nat} {l : List Slot} {f : Int → Option Int} (h : HeapAt w base a b n (.slice (some ⟨g, 0, none⟩) m c) l f) (hm : m = l.length) (i : Nat) (hi : i < l.length) (hl : l.length ≤ 4096) (s : Slot) (hs : i64ok s.f0) (hn : n ≤ 4096) :
    Calls Try.prog 28 #[.pointer (some ⟨a, 0, none⟩), .int .i64 i, .agg #[.int .i64 s.f0, .int .i64 s.f1.f0, .int .i64 s.f1.f1, .int .i64 s.f1.f2]] w fun e w' => e = .returned (.tuple #[]) ∧
      HeapAt w' base a b (if (f s.f0).isSome then n else n + 1) (.slice (some ⟨g, 0, none⟩) m c) (l.set i s) (upd f s.f0 (some i)) ∧ Keep3 w w' a b (.slice (some ⟨g, 0, none⟩) m c) := by
  subst hm
  have b0 : (0 : Int) ≤ (i : Int) := by omega
  have b1 : (i : Int) < (l.length : Int) := by omega
  go_enter Try.func28, Try.ntmps28
  go_wp2
  have hW : Below w.heap.size w (w.alloc (Obj.cells #[Value.int IntKind.i64 s.f0, Value.int IntKind.i64 s.f1.f0, Value.int IntKind.i64 s.f1.f1, Value.int IntKind.i64 s.f1.f2] 33)) := below_alloc (Below.refl _ _) _
  have hB := heap_alloc_new w (Obj.cells #[Value.int IntKind.i64 s.f0, Value.int IntKind.i64 s.f1.f0, Value.int IntKind.i64 s.f1.f1, Value.int IntKind.i64 s.f1.f2] 33)
  generalize w.alloc (Obj.cells #[Value.int IntKind.i64 s.f0, Value.int IntKind.i64 s.f1.f0, Value.int IntKind.i64 s.f1.f1, Value.int IntKind.i64 s.f1.f2] 33) = W at hW hB ⊢
  obtain ⟨_, _, he, n1, n2, n3, n4, n5⟩ := h.form (by omega)
  injection he with he
  injection he with he
  injection he with he
  subst he
  have n6 := h.mp.lt
  generalize w.heap.size = B at hB n5 n6 ⊢
  have hK := Keep3.of_below (a := a) (b := b) (v := .slice (some ⟨g, 0, none⟩) l.length c) hW
  replace h := h.of_below hW
  clear hW
  have h0 := h.c0
  have h1 := h.c1
  obtain ⟨q0, q1, q2, q3, z0, z1, z2, z3⟩ := h.slot i hi
  have e0 := blk_cell hB 0
  have e1 := blk_cell hB 1
  have e2 := blk_cell hB 2
  have e3 := blk_cell hB 3
  simp only [List.getElem?_toArray, List.getElem?_cons_zero, List.getElem?_cons_succ] at e0 e1 e2 e3
  have m1 : g ≠ B := by omega
  have m2 : B ≠ g := by omega
  go_region_held3 (fun w' => w'.cell? ⟨a, 0, none⟩ = some (.slice (some ⟨g, 0, none⟩) l.length c) ∧ w'.cell? ⟨B, 0, none⟩ = some (.int .i64 s.f0) ∧ w'.cell? ⟨B, 1, none⟩ = some (.int .i64 s.f1.f0) ∧ w'.cell? ⟨B, 2, none⟩ = some (.int .i64 s.f1.f1) ∧ w'.cell? ⟨B, 3, none⟩ = some (.int .i64 s.f1.f2)) (go_keep) (fail)
  obtain ⟨hP, hG⟩ := h.put i hi s
  have hWW : (((W.setCell { block := g, off := i * 4 } (Value.int IntKind.i64 s.f0)).setCell { block := g, off := i * 4 + 1 } (Value.int IntKind.i64 s.f1.f0)).setCell { block := g, off := i * 4 + 2 } (Value.int IntKind.i64 s.f1.f1)).setCell { block := g, off := i * 4 + 3 } (Value.int IntKind.i64 s.f1.f2) = W.setCells g (i * 4) (cells s) := rfl
  rw [hWW]
  have hB2 : (W.setCells g (i * 4) (cells s)).heap[B]? = some _ := (hG.block B (blk_lt hB) (by intro e; injection e with e; exact m2 e)).trans hB
  clear hWW e0 e1 e2 e3 q0 q1 q2 q3 z0 z1 z2 z3 h0 h1
  replace hK := hK.trans (Keep3.of_grown (a := a) (b := b) (v := .slice (some ⟨g, 0, none⟩) l.length c) hG (.inr (.inr rfl))) (.inl rfl)
  replace hB := hB2
  clear hB2 h hG
  generalize W.setCells g (i * 4) (cells s) = W1 at hP hB hK ⊢
  have hs' : i64ok (i : Int) := i64ok_mk (by omega) (by omega)
  obtain ⟨W2, hrun, hM, hT⟩ := (hP.mp.drew.drew).put Try.underlying3 Try.underlying60 hs (v := (i : Int)) hs' (Nat.lt_of_le_of_lt hn (by unfold maxLen; omega))
  replace hrun : Sem.run Try.prog (Instr.mapUpdate 60 (.map (some b)) (.int .i64 s.f0) (.int .i64 i)) W1.drew.drew = .ok () W2 := hrun
  have h1 := hP.c1
  have e0 := blk_cell hB 0
  simp only [List.getElem?_toArray, List.getElem?_cons_zero, List.getElem?_cons_succ] at e0
  have k1 : W2.cell? ⟨a, 1, none⟩ = some (.map (some b)) := blk_cell ((turned_heap hT n4).trans hP.hd) 1
  have k2 : W2.cell? ⟨B, 0, none⟩ = some (.int .i64 s.f0) := (blk_cell ((turned_heap hT (by omega)).trans hB) 0).trans rfl
  go_wp2
  go_region_held3 (fun w' => w'.cell? ⟨a, 1, none⟩ = some (.map (some b)) ∧ w'.cell? ⟨B, 0, none⟩ = some (.int .i64 s.f0)) (go_keep) (fail)
  clear hrun
  go_end0
  exact ⟨rfl, hP.drew.drew.turn hT hM, hK.drew.drew.trans (Keep3.of_turned hT) (.inl rfl)⟩
theorem lay_calls_any {w : World} {base a b n : Nat} {v : Value} {l : List Slot} {f : Int → Option Int} (h : HeapAt w base a b n v l f) (i : Nat) (hi : i < l.length) (hl : l.length ≤ 4096) (s : Slot) (hs : i64ok s.f0) (hn : n ≤ 4096) :
    Calls Try.prog 28 #[.pointer (some ⟨a, 0, none⟩), .int .i64 i, .agg #[.int .i64 s.f0, .int .i64 s.f1.f0, .int .i64 s.f1.f1, .int .i64 s.f1.f2]] w fun e w' => e = .returned (.tuple #[]) ∧
      HeapAt w' base a b (if (f s.f0).isSome then n else n + 1) v (l.set i s) (upd f s.f0 (some i)) ∧ Keep3 w w' a b v := by
  obtain ⟨g, c, rfl, _⟩ := h.form (by omega)
  exact lay_calls h rfl i hi hl s hs hn
end Go.Proofs.Ytejhkadalahcjaa.XHeap
