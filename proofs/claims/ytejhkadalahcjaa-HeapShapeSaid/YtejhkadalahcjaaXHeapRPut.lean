/- The reference's heap, walked: Put. -/
import Derived.Test.YtejhkadalahcjaaXHeapRef
import Derived.Deep.RegionLaw
namespace Go.Proofs.Ytejhkadalahcjaa.XHeap
open Go.RowKit Go.Proofs.YtejhkadalahcjaaW.PrintWords Go.Proofs.YtejhkadalahcjaaW.PrintLast Go.Proofs.YtejhkadalahcjaaW.PrintMore Go.Proofs.Ytejhkadalahcjaa.XBetter Go.Proofs.Ytejhkadalahcjaa.XMap Go.Proofs.Ytejhkadalahcjaa.PA
set_option linter.unusedVariables false
set_option linter.unusedSimpArgs false
/-- The rank of a slot written. -/
theorem RefAt.put {w : World} {base a g c : Nat} {l : List Slot} (h : RefAt w base a (.slice (some ⟨g, 0, none⟩) l.length c) l) (i : Nat) (hi : i < l.length) (s : Slot) (hs : s.f0 = (at_ l i).f0) :
    RefAt (w.setCells g (i * 4 + 1) [.int .i64 s.f1.f0, .int .i64 s.f1.f1, .int .i64 s.f1.f2]) base a (.slice (some ⟨g, 0, none⟩) l.length c) (l.set i s) ∧ w.grownBy (w.setCells g (i * 4 + 1) [.int .i64 s.f1.f0, .int .i64 s.f1.f1, .int .i64 s.f1.f2]) (some g) := by
  obtain ⟨_, _, he, h1, h2, h3⟩ := h.form (by omega)
  injection he with he
  injection he with he
  injection he with he
  subst he
  obtain ⟨cs, hl, hM, hc, hf⟩ := Kd.R_elem h.sl (back z33) i (by omega) (by omega)
  obtain ⟨hR, hG⟩ := Kd.R_seg (okp := fun k => True ∧ k ≠ g) (seg := [.int .i64 s.f1.f0, .int .i64 s.f1.f1, .int .i64 s.f1.f2]) (j := 1) (x' := back s) h.sl i (by omega) (by omega) hl hc (by simp; exact Nat.le_refl 4) (by
    obtain rfl := k37_openM hM
    have he : (l.map back).getD i (back z33) = back (at_ l i) := by
      unfold at_
      rw [List.getD_eq_getElem?_getD, List.getD_eq_getElem?_getD, List.getElem?_map]
      cases l[i]? <;> rfl
    rw [Int.toNat_natCast, he]
    have := k37_mkM w base (fun k => True ∧ k ≠ g) (back s)
    simp only [back, hs] at this ⊢
    exact this) (fun k hk => hk)
  rw [Int.toNat_natCast, ← List.map_set] at hR
  rw [Int.toNat_natCast] at hG
  exact ⟨⟨(hG.block a (blk_lt h.hd) (by intro e; injection e with e; exact h2 e.symm)).trans h.hd, hR, h.ha⟩, hG⟩
set_option maxRecDepth 100000 in
theorem rput_had {w : World} {base a : Nat} {v : Value} {l : List Slot} (h : RefAt w base a v l) (hl : l.length ≤ 4096) (s : Slot) (j : Nat) (hj : j < l.length) (hix : ix l s.f0 = some (j : Int)) :
    Calls Try.prog 23 #[.pointer (some ⟨a, 0, none⟩), .int .i64 s.f0, .agg #[.int .i64 s.f1.f0, .int .i64 s.f1.f1, .int .i64 s.f1.f2]] w fun e w' => e = .returned (.bool false) ∧ RefAt w' base a v (l.set j s) ∧ Keep3 w w' a a v := by
  obtain ⟨j', he0, hj', he⟩ := ix_some hix
  obtain rfl : j = j' := by omega
  have HE := Aside0.mk he
  have hpl : pl l s.f0 = (j : Int) := by unfold pl; rw [hix]; rfl
  have hW : Below w.heap.size w (w.alloc (Obj.cells #[Value.int IntKind.i64 s.f1.f0, Value.int IntKind.i64 s.f1.f1, Value.int IntKind.i64 s.f1.f2] 30)) := below_alloc (Below.refl _ _) _
  have hB := heap_alloc_new w (Obj.cells #[Value.int IntKind.i64 s.f1.f0, Value.int IntKind.i64 s.f1.f1, Value.int IntKind.i64 s.f1.f2] 30)
  have hp := place_calls (h.of_below hW) hl s.f0
  rw [hpl] at hp
  clear hix hpl he he0 hj'
  have hk := Keep3.of_below (a := a) (b := a) (v := v) hW
  replace h := h.of_below hW
  have b0 : (0 : Int) ≤ (j : Int) := by omega
  have b1 : (j : Int) < (l.length : Int) := by omega
  go_enter Try.func23, Try.ntmps23
  go_wp2_with fail
  obtain ⟨g, c, rfl, n1, n2, n3⟩ := h.form (by omega)
  have n4 : w.heap.size ≠ g := by
    intro e
    obtain ⟨cs, hcs⟩ := Kd.R_typed h.sl g rfl
    rw [← e, hB] at hcs
    simp at hcs
  have n5 : g ≠ w.heap.size := fun e => n4 e.symm
  generalize w.alloc (Obj.cells #[Value.int IntKind.i64 s.f1.f0, Value.int IntKind.i64 s.f1.f1, Value.int IntKind.i64 s.f1.f2] 30) = W at h hk hW hB hp n3 ⊢
  refine hp.mono ?_
  rintro e w1 ⟨rfl, rfl⟩
  clear hp
  have h0 := h.c0
  obtain ⟨_, p1, p2, p3, _, z1, z2, z3⟩ := h.slot j hj
  have e0 : w1.cell? ⟨w.heap.size, 0, none⟩ = some (.int .i64 s.f1.f0) := (blk_cell hB 0).trans rfl
  have e1 : w1.cell? ⟨w.heap.size, 1, none⟩ = some (.int .i64 s.f1.f1) := (blk_cell hB 1).trans rfl
  have e2 : w1.cell? ⟨w.heap.size, 2, none⟩ = some (.int .i64 s.f1.f2) := (blk_cell hB 2).trans rfl
  go_wp2
  go_region_held3 (fun w' => w'.cell? ⟨a, 0, none⟩ = some (.slice (some ⟨g, 0, none⟩) l.length c) ∧ w'.cell? ⟨w.heap.size, 0, none⟩ = some (.int .i64 s.f1.f0) ∧ w'.cell? ⟨w.heap.size, 1, none⟩ = some (.int .i64 s.f1.f1) ∧ w'.cell? ⟨w.heap.size, 2, none⟩ = some (.int .i64 s.f1.f2)) (go_keep) (fail)
  obtain ⟨hP, hG⟩ := h.put j hj s HE.out.symm
  have hWW : ((w1.setCell { block := g, off := j * 4 + 1 } (Value.int IntKind.i64 s.f1.f0)).setCell { block := g, off := j * 4 + 2 } (Value.int IntKind.i64 s.f1.f1)).setCell { block := g, off := j * 4 + 3 } (Value.int IntKind.i64 s.f1.f2) = w1.setCells g (j * 4 + 1) [.int .i64 s.f1.f0, .int .i64 s.f1.f1, .int .i64 s.f1.f2] := rfl
  go_wp2
  go_ret
  rw [hWW]
  exact ⟨rfl, hP.of_below (below_drew (Below.refl _ _)), (hk.trans (Keep3.of_grown (v := .slice (some ⟨g, 0, none⟩) l.length c) hG (.inr (.inr rfl))) (.inl rfl)).drew⟩
theorem infoR : (Try.prog.info? 37).map (fun i => (i.zero, i.size, i.bytes)) = some (some (.agg #[.int .i64 0, .int .i64 0, .int .i64 0, .int .i64 0]), 4, 32) := by kernel_rfl
theorem RefAt.reslice {w w1 : World} {base a : Nat} {v v1 : Value} {l l1 : List Slot} (h : RefAt w base a v l) (hR : kR.R 37 w1 base (fun _ => True) v1 (l1.map back)) (ha : w1.heap[a]? = w.heap[a]?) :
    RefAt (w1.setCell ⟨a, 0, none⟩ v1) base a v1 l1 := ⟨blk_set (ha.trans h.hd) 0 v1, Kd.R_set hR (ha.trans h.hd) (by decide) 0 v1, h.ha⟩
set_option maxRecDepth 100000 in
theorem rput_new {w : World} {base a : Nat} {v : Value} {l : List Slot} (h : RefAt w base a v l) (hl : l.length < 4096) (s : Slot) (hix : ix l s.f0 = none) :
    Calls Try.prog 23 #[.pointer (some ⟨a, 0, none⟩), .int .i64 s.f0, .agg #[.int .i64 s.f1.f0, .int .i64 s.f1.f1, .int .i64 s.f1.f2]] w fun e w' => e = .returned (.bool true) ∧ ∃ v', RefAt w' base a v' (l ++ [s]) ∧ Keep3 w w' a a v ∧ Grew w v v' := by
  have hpl : pl l s.f0 = -1 := by unfold pl; rw [hix]; rfl
  have hW : Below w.heap.size w (w.alloc (Obj.cells #[Value.int IntKind.i64 s.f1.f0, Value.int IntKind.i64 s.f1.f1, Value.int IntKind.i64 s.f1.f2] 30)) := below_alloc (Below.refl _ _) _
  have hB := heap_alloc_new w (Obj.cells #[Value.int IntKind.i64 s.f1.f0, Value.int IntKind.i64 s.f1.f1, Value.int IntKind.i64 s.f1.f2] 30)
  have hp := place_calls (h.of_below hW) (Nat.le_of_lt hl) s.f0
  rw [hpl] at hp
  clear hix hpl
  have hk := Keep3.of_below (a := a) (b := a) (v := v) hW
  have hal := blk_lt h.hd
  have hbz : base ≤ w.heap.size := Nat.le_of_lt (Nat.lt_of_le_of_lt h.ha hal)
  have hWz := hW.size
  replace h := h.of_below hW
  go_enter Try.func23, Try.ntmps23
  go_wp2_with fail
  generalize w.alloc (Obj.cells #[Value.int IntKind.i64 s.f1.f0, Value.int IntKind.i64 s.f1.f1, Value.int IntKind.i64 s.f1.f2] 30) = W at h hk hW hB hp hWz ⊢
  refine hp.mono ?_
  rintro e w1 ⟨rfl, rfl⟩
  clear hp
  have h0 := h.c0
  have e0 : w1.cell? ⟨w.heap.size, 0, none⟩ = some (.int .i64 s.f1.f0) := (blk_cell hB 0).trans rfl
  have e1 : w1.cell? ⟨w.heap.size, 1, none⟩ = some (.int .i64 s.f1.f1) := (blk_cell hB 1).trans rfl
  have e2 : w1.cell? ⟨w.heap.size, 2, none⟩ = some (.int .i64 s.f1.f2) := (blk_cell hB 2).trans rfl
  have m1 : a ≠ w.heap.size := Nat.ne_of_lt hal
  have m2 : w.heap.size ≠ a := m1.symm
  go_wp2
  have o1 : w1.heap.size ≠ a := World.new_ne w1 _ h0
  have o2 : w1.heap.size ≠ w.heap.size := World.new_ne w1 _ e0
  have h0a := (h.of_below (below_alloc (Below.refl _ _) (Obj.cells #[.int .i64 s.f0, .int .i64 s.f1.f0, .int .i64 s.f1.f1, .int .i64 s.f1.f2] 37))).c0
  go_region_law ((refine Kd.R_append_step kR (w0 := w1.drew) (W := w1.drew) base (by rfl) (.tmp 25) (.tmp 29) 26 37 (.agg #[.int .i64 0, .int .i64 0, .int .i64 0, .int .i64 0]) 32 (by rfl) Try.underlying26 infoR rfl (by decide) (by omega) v (l.map back) (back s) [.int .i64 s.f0, .int .i64 s.f1.f0, .int .i64 s.f1.f1, .int .i64 s.f1.f2] (fun _ => True) (fun _ => False) (by rfl) (by rfl) (k37_mkM _ _ _ (back s)) (fun _ hq => hq.elim) (fun _ _ => trivial) (Kd.R_drew h.sl) (Below.refl _ _) (Nat.le_trans hbz hWz) (by rw [List.length_map]; omega) ?_; intro v1 w2 ho hb1 hg hat; obtain ⟨A1, c1, rfl⟩ := Kd.R_slice ho; have hd1 := blk_grown (w := w1.drew) h.hd hg (Kd.R_ne h.sl h.hd (by decide)); have ca : w2.cell? ⟨a, 0, none⟩ = some v := (blk_cell hd1 0).trans rfl; have cf := blk_frozen hd1 0))
  all_goals
    have hll : (l.map back ++ [back s]).length = l.length + 1 := by simp
    have hmm : l.map back ++ [back s] = (l ++ [s]).map back := by simp
    have h2 := (h.of_below (below_drew (Below.refl _ _))).reslice (v1 := .slice A1 (l.map back ++ [back s]).length c1) (l1 := l ++ [s]) (by rw [← hmm]; exact ho) (hd1.trans h.hd.symm)
    have hk2 : Keep3 w (w2.setCell ⟨a, 0, none⟩ (.slice A1 (l.map back ++ [back s]).length c1)) a a v := by
      refine ⟨hg.os.trans hk.os, hg.tape.trans hk.tape, hg.output.trans hk.output, by simpa [World.setCell] using Nat.le_trans hk.size hg.size, fun i hi hia hib hiv => ?_⟩
      exact (Below.heap_setCell w2 ⟨a, 0, none⟩ _ i hia).trans ((hg.block i (Nat.lt_of_lt_of_le hi hk.size) hiv).trans (hk.blk i hi hia hib hiv))
    have hgr : Grew w v (.slice A1 (l.map back ++ [back s]).length c1) := by
      rcases hat with e | ⟨q, e, hq⟩
      · exact .inl e
      · exact .inr ⟨q, e, Nat.le_trans hWz hq⟩
    rw [hll] at h2 hk2 hgr
    clear ho hat hg hb1 hd1 ca cf
    go_wp2
    go_ret
    exact ⟨rfl, _, h2.of_below (by first | exact Below.refl _ _ | exact below_drew (Below.refl _ _)), (by first | exact hk2 | exact hk2.drew), hgr⟩
end Go.Proofs.Ytejhkadalahcjaa.XHeap
