/- heap.Heap, walked: swap. -/
import Derived.Test.YtejhkadalahcjaaXHeapLay
namespace Go.Proofs.Ytejhkadalahcjaa.XHeap
open Go.RowKit Go.Proofs.YtejhkadalahcjaaW.PrintWords Go.Proofs.YtejhkadalahcjaaW.PrintLast Go.Proofs.YtejhkadalahcjaaW.PrintMore Go.Proofs.Ytejhkadalahcjaa.XBetter Go.Proofs.Ytejhkadalahcjaa.XMap Go.Proofs.Ytejhkadalahcjaa.PA
set_option linter.unusedVariables false
set_option linter.unusedSimpArgs false
set_option maxRecDepth 100000 in
theorem swap_calls {w : World} {base a b n g c : Nat} {l : List Slot} {f : Int → Option Int} (h : HeapAt w base a b n (.slice (some ⟨g, 0, none⟩) l.length c) l f) (i k : Nat) (hi : i < l.length) (hk : k < l.length) (hl : l.length ≤ 4096) (hsi : i64ok (at_ l i).f0) (hsk : i64ok (at_ l k).f0) (hn : n ≤ 4096)
    (hfi : (f (at_ l i).f0).isSome = true) (hfk : (f (at_ l k).f0).isSome = true) :
    Calls Try.prog 33 #[.pointer (some ⟨a, 0, none⟩), .int .i64 i, .int .i64 k] w fun e w' => e = .returned (.tuple #[]) ∧
      HeapAt w' base a b n (.slice (some ⟨g, 0, none⟩) l.length c) ((l.set i (at_ l k)).set k (at_ l i)) (upd (upd f (at_ l k).f0 (some i)) (at_ l i).f0 (some k)) ∧ Keep3 w w' a b (.slice (some ⟨g, 0, none⟩) l.length c) := by
  have b0 : (0 : Int) ≤ (i : Int) := by omega
  have b1 : (i : Int) < (l.length : Int) := by omega
  have b2 : (0 : Int) ≤ (k : Int) := by omega
  have b3 : (k : Int) < (l.length : Int) := by omega
  have h0 := h.c0
  obtain ⟨p0, p1, p2, p3, _, _, _, _⟩ := h.slot i hi
  obtain ⟨q0, q1, q2, q3, _, _, _, _⟩ := h.slot k hk
  have o0 := World.new_ne w _ h0
  have o1 := World.new_ne w _ p0
  have o2 := World.new_ne w _ q0
  go_enter Try.func33, Try.ntmps33
  go_wp2
  go_region_held3 (fun w' => w'.cell? ⟨a, 0, none⟩ = some (.slice (some ⟨g, 0, none⟩) l.length c) ∧ (w'.cell? ⟨g, i * 4, none⟩ = some (.int .i64 (at_ l i).f0) ∧ w'.cell? ⟨g, i * 4 + 1, none⟩ = some (.int .i64 (at_ l i).f1.f0) ∧ w'.cell? ⟨g, i * 4 + 2, none⟩ = some (.int .i64 (at_ l i).f1.f1) ∧ w'.cell? ⟨g, i * 4 + 3, none⟩ = some (.int .i64 (at_ l i).f1.f2)) ∧ (w'.cell? ⟨g, k * 4, none⟩ = some (.int .i64 (at_ l k).f0) ∧ w'.cell? ⟨g, k * 4 + 1, none⟩ = some (.int .i64 (at_ l k).f1.f0) ∧ w'.cell? ⟨g, k * 4 + 2, none⟩ = some (.int .i64 (at_ l k).f1.f1) ∧ w'.cell? ⟨g, k * 4 + 3, none⟩ = some (.int .i64 (at_ l k).f1.f2))) (go_keep) (fail)
  · obtain ⟨HB, HP, HQ⟩ := two_new w (Obj.cells #[.int .i64 (at_ l i).f0, .int .i64 (at_ l i).f1.f0, .int .i64 (at_ l i).f1.f1, .int .i64 (at_ l i).f1.f2] 33) (Obj.cells #[.int .i64 (at_ l k).f0, .int .i64 (at_ l k).f1.f0, .int .i64 (at_ l k).f1.f1, .int .i64 (at_ l k).f1.f2] 33)
    go_wp2_with fail
    generalize ((w.alloc (Obj.cells #[.int .i64 (at_ l i).f0, .int .i64 (at_ l i).f1.f0, .int .i64 (at_ l i).f1.f1, .int .i64 (at_ l i).f1.f2] 33)).alloc (Obj.cells #[.int .i64 (at_ l k).f0, .int .i64 (at_ l k).f1.f0, .int .i64 (at_ l k).f1.f1, .int .i64 (at_ l k).f1.f2] 33)).drew = W at HB HP HQ ⊢
    have hK := Keep3.of_below (a := a) (b := b) (v := .slice (some ⟨g, 0, none⟩) l.length c) HB
    have hal := blk_lt h.hd
    have hbl := h.mp.lt
    obtain ⟨_, _, he, n1, n2, n3, n4, n5⟩ := h.form (by omega)
    injection he with he
    injection he with he
    injection he with he
    subst he
    replace h := h.of_below HB
    refine (lay_calls h rfl i hi hl (at_ l k) hsk hn).mono ?_
    rintro e w1 ⟨rfl, h1, k1⟩
    rw [if_pos hfk] at h1
    have hI := (k1.blk _ (blk_lt HP) (by omega) (by omega) (by intro e; injection e with e; dsimp only at e; omega)).trans HP
    have e0 := blk_cell hI 0
    have e1 := blk_cell hI 1
    have e2 := blk_cell hI 2
    have e3 := blk_cell hI 3
    simp only [List.getElem?_toArray, List.getElem?_cons_zero, List.getElem?_cons_succ] at e0 e1 e2 e3
    clear HP HQ
    go_wp2_with fail
    refine (lay_calls h1 (by rw [List.length_set]) k (by rw [List.length_set]; exact hk) (by rw [List.length_set]; exact hl) (at_ l i) hsi hn).mono ?_
    rintro e w2 ⟨rfl, h2, k2⟩
    rw [if_pos (by unfold upd; split; rfl; exact hfi)] at h2
    clear e0 e1 e2 e3 hI
    go_wp2
    go_end0
    exact ⟨rfl, h2, (hK.trans k1 (.inl rfl)).trans k2 (.inl rfl)⟩
  · obtain ⟨HB, HP, HQ⟩ := two_new w (Obj.cells #[.int .i64 (at_ l k).f0, .int .i64 (at_ l k).f1.f0, .int .i64 (at_ l k).f1.f1, .int .i64 (at_ l k).f1.f2] 33) (Obj.cells #[.int .i64 (at_ l i).f0, .int .i64 (at_ l i).f1.f0, .int .i64 (at_ l i).f1.f1, .int .i64 (at_ l i).f1.f2] 33)
    go_wp2_with fail
    generalize ((w.alloc (Obj.cells #[.int .i64 (at_ l k).f0, .int .i64 (at_ l k).f1.f0, .int .i64 (at_ l k).f1.f1, .int .i64 (at_ l k).f1.f2] 33)).alloc (Obj.cells #[.int .i64 (at_ l i).f0, .int .i64 (at_ l i).f1.f0, .int .i64 (at_ l i).f1.f1, .int .i64 (at_ l i).f1.f2] 33)).drew = W at HB HP HQ ⊢
    have hK := Keep3.of_below (a := a) (b := b) (v := .slice (some ⟨g, 0, none⟩) l.length c) HB
    have hal := blk_lt h.hd
    have hbl := h.mp.lt
    obtain ⟨_, _, he, n1, n2, n3, n4, n5⟩ := h.form (by omega)
    injection he with he
    injection he with he
    injection he with he
    subst he
    replace h := h.of_below HB
    refine (lay_calls h rfl i hi hl (at_ l k) hsk hn).mono ?_
    rintro e w1 ⟨rfl, h1, k1⟩
    rw [if_pos hfk] at h1
    have hI := (k1.blk _ (blk_lt HQ) (by omega) (by omega) (by intro e; injection e with e; dsimp only at e; omega)).trans HQ
    have e0 := blk_cell hI 0
    have e1 := blk_cell hI 1
    have e2 := blk_cell hI 2
    have e3 := blk_cell hI 3
    simp only [List.getElem?_toArray, List.getElem?_cons_zero, List.getElem?_cons_succ] at e0 e1 e2 e3
    clear HP HQ
    go_wp2_with fail
    refine (lay_calls h1 (by rw [List.length_set]) k (by rw [List.length_set]; exact hk) (by rw [List.length_set]; exact hl) (at_ l i) hsi hn).mono ?_
    rintro e w2 ⟨rfl, h2, k2⟩
    rw [if_pos (by unfold upd; split; rfl; exact hfi)] at h2
    clear e0 e1 e2 e3 hI
    go_wp2
    go_end0
    exact ⟨rfl, h2, (hK.trans k1 (.inl rfl)).trans k2 (.inl rfl)⟩
end Go.Proofs.Ytejhkadalahcjaa.XHeap
