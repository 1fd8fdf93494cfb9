/- heap.Heap, walked: New, Len, Top, Get. -/
import Derived.Test.YtejhkadalahcjaaXHeapDrop
namespace Go.Proofs.Ytejhkadalahcjaa.XHeap
open Go.RowKit Go.Proofs.YtejhkadalahcjaaW.PrintWords Go.Proofs.YtejhkadalahcjaaW.PrintLast Go.Proofs.YtejhkadalahcjaaW.PrintMore Go.Proofs.Ytejhkadalahcjaa.XBetter Go.Proofs.Ytejhkadalahcjaa.XMap Go.Proofs.Ytejhkadalahcjaa.PA
set_option linter.unusedVariables false
set_option linter.unusedSimpArgs false
theorem fine_nil : Fine [] := ⟨by simp, by simp, by simp⟩
theorem new_calls (w : World) : Calls Try.prog 9 #[] w fun e w' => ∃ a b, e = .returned (.pointer (some ⟨a, 0, none⟩)) ∧ HA w' w.heap.size a b (.slice none 0 0) [] ∧ Below w.heap.size w w' := by
  have hmm := @run_makeMap Try.prog
  go_enter Try.func9, Try.ntmps9
  go_wp2
  go_ret
  have h1 := blk_below (heap_alloc_new w (Obj.map #[] 0)) (below_alloc (Below.refl _ _) (Obj.cells #[Value.slice none 0 0, Value.map (some w.heap.size)] 62))
  have h2 := heap_alloc_new (w.alloc (Obj.map #[] 0)) (Obj.cells #[Value.slice none 0 0, Value.map (some w.heap.size)] 62)
  have hz : (w.alloc (Obj.map #[] 0)).heap.size = w.heap.size + 1 := by simp
  rw [hz] at h2
  refine ⟨w.heap.size + 1, w.heap.size, rfl, ⟨⟨h2, Kd.R_nil _ _ _ _ _, ?_, by omega, Nat.le_refl _⟩, fine_nil⟩, below_alloc (below_alloc (Below.refl _ _) _) _⟩
  refine ((MapF.made elI w).kept (h1.trans (heap_alloc_new w (Obj.map #[] 0)).symm)).ext (fun x _ => ?_)
  exact (ix_none (by simp)).symm
theorem len_calls {w : World} {base a b : Nat} {v : Value} {l : List Slot} (h : HA w base a b v l) : Calls Try.prog 15 #[.pointer (some ⟨a, 0, none⟩)] w fun e w' => e = .returned (.int .i64 l.length) ∧ w' = w := by
  have h0 := h.mem.c0
  obtain ⟨A, c, rfl⟩ := Kd.R_slice h.mem.sl
  go_enter Try.func15, Try.ntmps15
  go_wp2
  go_ret
  exact ⟨rfl, rfl⟩
theorem top_none {w : World} {base a b : Nat} {v : Value} (h : HA w base a b v []) : Calls Try.prog 11 #[.pointer (some ⟨a, 0, none⟩)] w fun e w' => e = .returned (.tuple #[.agg #[.int .i64 0, .int .i64 0, .int .i64 0, .int .i64 0], .bool false]) ∧ Below w.heap.size w w' := by
  have h0 := (h.of_below (below_alloc (Below.refl w.heap.size w) (Obj.cells #[.int .i64 0, .int .i64 0, .int .i64 0, .int .i64 0] 33))).mem.c0
  obtain ⟨A, c, rfl⟩ := Kd.R_slice h.mem.sl
  simp only [List.length_nil] at h0
  go_enter Try.func11, Try.ntmps11
  go_wp2
  exact bodyPost_ret (v := .tuple #[.agg #[.int .i64 0, .int .i64 0, .int .i64 0, .int .i64 0], .bool false]) (by simp [results, Try.results11, go_sem]) rfl ⟨rfl, below_alloc (Below.refl _ _) _⟩
theorem top_some {w : World} {base a b : Nat} {v : Value} {l : List Slot} (h : HA w base a b v l) (hl : 0 < l.length) : Calls Try.prog 11 #[.pointer (some ⟨a, 0, none⟩)] w fun e w' => e = .returned (.tuple #[.agg #[.int .i64 (at_ l 0).f0, .int .i64 (at_ l 0).f1.f0, .int .i64 (at_ l 0).f1.f1, .int .i64 (at_ l 0).f1.f2], .bool true]) ∧ Below w.heap.size w w' := by
  have hz := h.of_below (below_alloc (Below.refl w.heap.size w) (Obj.cells #[.int .i64 0, .int .i64 0, .int .i64 0, .int .i64 0] 33))
  have h0 := hz.mem.c0
  obtain ⟨g, c, rfl, n1, n2, n3, n4, n5⟩ := h.mem.form hl
  obtain ⟨p0, p1, p2, p3, _, _, _, _⟩ := hz.mem.slot 0 hl
  have o1 := Nat.ne_of_lt n5
  simp only [Nat.zero_mul, Nat.zero_add] at p0 p1 p2 p3
  have hne : ((l.length : Int) == 0) = false := by simp; intro e; subst e; simp at hl
  have hne2 : (l.length == 0) = false := by simp; intro e; subst e; simp at hl
  have b1 : (0 : Int) < (l.length : Int) := by omega
  go_enter Try.func11, Try.ntmps11
  go_wp2
  exact bodyPost_ret (v := .tuple #[.agg #[.int .i64 (at_ l 0).f0, .int .i64 (at_ l 0).f1.f0, .int .i64 (at_ l 0).f1.f1, .int .i64 (at_ l 0).f1.f2], .bool true]) (by simp [results, Try.results11, go_sem]) rfl ⟨rfl, below_alloc (Below.refl _ _) _⟩
theorem get_none {w : World} {base a b : Nat} {v : Value} {l : List Slot} (h : HA w base a b v l) (id : Int) (hid : i64ok id) (hix : ix l id = none) : Calls Try.prog 20 #[.pointer (some ⟨a, 0, none⟩), .int .i64 id] w fun e w' => e = .returned (.tuple #[.agg #[.int .i64 0, .int .i64 0, .int .i64 0], .bool false]) ∧ Below w.heap.size w w' := by
  have hz := h.of_below (below_alloc (Below.refl w.heap.size w) (Obj.cells #[.int .i64 0, .int .i64 0, .int .i64 0] 31))
  have h1 := hz.mem.c1
  have hlk := look_not hz.mem hid hix
  clear hix
  go_enter Try.func20, Try.ntmps20
  go_wp2
  exact bodyPost_ret (v := .tuple #[.agg #[.int .i64 0, .int .i64 0, .int .i64 0], .bool false]) (by simp [results, Try.results20, go_sem]) rfl ⟨rfl, below_alloc (Below.refl _ _) _⟩
theorem get_some {w : World} {base a b : Nat} {v : Value} {l : List Slot} (h : HA w base a b v l) (i : Nat) (hi : i < l.length) : Calls Try.prog 20 #[.pointer (some ⟨a, 0, none⟩), .int .i64 (at_ l i).f0] w fun e w' => e = .returned (.tuple #[.agg #[.int .i64 (at_ l i).f1.f0, .int .i64 (at_ l i).f1.f1, .int .i64 (at_ l i).f1.f2], .bool true]) ∧ Below w.heap.size w w' := by
  have hz := h.of_below (below_alloc (Below.refl w.heap.size w) (Obj.cells #[.int .i64 0, .int .i64 0, .int .i64 0] 31))
  have h1 := hz.mem.c1
  have h0 := hz.mem.c0
  have hid := h.fine.ok _ (at_mem hi)
  have hlk := look_had hz.mem hid (ix_at h.fine hi)
  obtain ⟨g, c, rfl, n1, n2, n3, n4, n5⟩ := hz.mem.form (by omega)
  obtain ⟨p0, p1, p2, p3, _, _, _, _⟩ := hz.mem.slot i hi
  obtain ⟨p0', _⟩ := h.mem.slot i hi
  have o1 := World.new_ne w _ p0'
  clear p0'
  have b0 : (0 : Int) ≤ (i : Int) := by omega
  have b1 : (i : Int) < (l.length : Int) := by omega
  generalize (at_ l i).f0 = id at hid hlk p0 ⊢
  go_enter Try.func20, Try.ntmps20
  go_wp2
  exact bodyPost_ret (v := .tuple #[.agg #[.int .i64 (at_ l i).f1.f0, .int .i64 (at_ l i).f1.f1, .int .i64 (at_ l i).f1.f2], .bool true]) (by simp [results, Try.results20, go_sem]) rfl ⟨rfl, below_alloc (Below.refl _ _) _⟩
end Go.Proofs.Ytejhkadalahcjaa.XHeap
