/- heap.Heap, walked: its shape in memory; lay, swap. -/
import Derived.Test.YtejhkadalahcjaaXKinds
import Derived.Test.YtejhkadalahcjaaXBetter
import Derived.Test.YtejhkadalahcjaaXMap
import Derived.Handy
import Derived.Deep.RegionHeld3
namespace Go.Proofs.Ytejhkadalahcjaa.XHeap
open Go.RowKit Go.Proofs.YtejhkadalahcjaaW.PrintWords Go.Proofs.YtejhkadalahcjaaW.PrintLast Go.Proofs.YtejhkadalahcjaaW.PrintMore Go.Proofs.Ytejhkadalahcjaa.XBetter Go.Proofs.Ytejhkadalahcjaa.XMap Go.Proofs.Ytejhkadalahcjaa.PA
set_option linter.unusedVariables false
set_option linter.unusedSimpArgs false
abbrev Slot := S33
abbrev kSlot : Kd Slot := k33
noncomputable def elI : El Try.prog 3 Int := elInt Try.underlying3 (fun w => by kernel_rfl)
def cells (s : Slot) : List Value := [.int .i64 s.f0, .int .i64 s.f1.f0, .int .i64 s.f1.f1, .int .i64 s.f1.f2]
/-- A heap in memory: its two fields at block a, its slots, its map (of n entries). -/
structure HeapAt (w : World) (base a b n : Nat) (v : Value) (l : List Slot) (f : Int → Option Int) : Prop where
  hd : w.heap[a]? = some (.cells #[v, .map (some b)] 62 (0, 0))
  sl : kSlot.R 33 w base (fun _ => True) v l
  mp : MapF elI 3 w b n f
  ha : base ≤ a
  hb : base ≤ b
structure Keep3 (w w' : World) (a b : Nat) (v : Value) : Prop where
  os : w'.os = w.os
  tape : w'.tape = w.tape
  output : w'.output = w.output
  size : w.heap.size ≤ w'.heap.size
  blk : ∀ k, k < w.heap.size → k ≠ a → k ≠ b → some k ≠ v.ownBlock → w'.heap[k]? = w.heap[k]?
theorem Keep3.refl (w : World) (a b : Nat) (v : Value) : Keep3 w w a b v := ⟨rfl, rfl, rfl, Nat.le_refl _, fun _ _ _ _ _ => rfl⟩
theorem Keep3.trans {w w1 w2 : World} {a b : Nat} {v v1 : Value} (h : Keep3 w w1 a b v) (k : Keep3 w1 w2 a b v1) (hv : v1.ownBlock = v.ownBlock ∨ ∃ g, v1.ownBlock = some g ∧ w.heap.size ≤ g) : Keep3 w w2 a b v := by
  refine ⟨k.os.trans h.os, k.tape.trans h.tape, k.output.trans h.output, Nat.le_trans h.size k.size, fun i hi ha hb hn => ?_⟩
  refine (k.blk i (Nat.lt_of_lt_of_le hi h.size) ha hb ?_).trans (h.blk i hi ha hb hn)
  rcases hv with hv | ⟨g, hv, hg⟩
  · rw [hv]; exact hn
  · rw [hv]; intro e; injection e with e; omega
theorem Keep3.below {w0 w w' : World} {B a b : Nat} {v : Value} (h : Keep3 w w' a b v) (k : Below B w0 w) (hB : B ≤ w.heap.size) (ha : B ≤ a) (hb : B ≤ b) (hv : ∀ g, v.ownBlock = some g → B ≤ g) : Below B w0 w' :=
  ⟨h.os.trans k.os, h.tape.trans k.tape, h.output.trans k.output, Nat.le_trans k.size h.size, fun i hi => (h.blk i (by omega) (by omega) (by omega) (fun e => by have := hv i e.symm; omega)).trans (k.block i hi)⟩
theorem Keep3.of_below {w w' : World} {a b : Nat} {v : Value} (h : Below w.heap.size w w') : Keep3 w w' a b v := ⟨h.os, h.tape, h.output, h.size, fun i hi _ _ _ => h.block i hi⟩
theorem Keep3.of_grown {w w' : World} {a b : Nat} {v : Value} {g : Nat} (h : w.grownBy w' (some g)) (hg : g = a ∨ g = b ∨ v.ownBlock = some g) : Keep3 w w' a b v := by
  refine ⟨h.os, h.tape, h.output, h.size, fun i hi ha hb hn => h.block i hi ?_⟩
  intro e
  injection e with e
  subst e
  rcases hg with hg | hg | hg
  · exact ha hg
  · exact hb hg
  · exact hn hg.symm
section
variable {w : World} {base a b n : Nat} {v : Value} {l : List Slot} {f : Int → Option Int}
theorem HeapAt.c0 (h : HeapAt w base a b n v l f) : w.cell? ⟨a, 0, none⟩ = some v := blk_cell h.hd 0
theorem HeapAt.c1 (h : HeapAt w base a b n v l f) : w.cell? ⟨a, 1, none⟩ = some (.map (some b)) := blk_cell h.hd 1
theorem HeapAt.of_below (h : HeapAt w base a b n v l f) {w' : World} (k : Below w.heap.size w w') : HeapAt w' base a b n v l f :=
  ⟨blk_below h.hd k, Kd.R_below h.sl k, h.mp.kept (k.block b h.mp.lt), h.ha, h.hb⟩
theorem HeapAt.form (h : HeapAt w base a b n v l f) (hl : 0 < l.length) : ∃ g c, v = .slice (some ⟨g, 0, none⟩) l.length c ∧ base ≤ g ∧ g ≠ a ∧ g ≠ b ∧ a ≠ b ∧ g < w.heap.size := by
  obtain ⟨g, c, rfl, h1, h2, cur, h3⟩ := Kd.R_form h.sl hl
  obtain ⟨es, ck, h4⟩ := h.mp.block
  refine ⟨g, c, rfl, h1, fun e => ?_, fun e => ?_, fun e => ?_, h2⟩
  · subst e; rw [h.hd] at h3; simp at h3
  · subst e; rw [h4] at h3; simp at h3
  · subst e; rw [h.hd] at h4; simp at h4
end
/-- The slot at a place. -/
def at_ (l : List Slot) (i : Nat) : Slot := l.getD i z33
theorem HeapAt.slot {w : World} {base a b n g c : Nat} {l : List Slot} {f : Int → Option Int} (h : HeapAt w base a b n (.slice (some ⟨g, 0, none⟩) l.length c) l f) (i : Nat) (hi : i < l.length) :
    w.cell? ⟨g, i * 4, none⟩ = some (.int .i64 (at_ l i).f0) ∧ w.cell? ⟨g, i * 4 + 1, none⟩ = some (.int .i64 (at_ l i).f1.f0) ∧ w.cell? ⟨g, i * 4 + 2, none⟩ = some (.int .i64 (at_ l i).f1.f1) ∧ w.cell? ⟨g, i * 4 + 3, none⟩ = some (.int .i64 (at_ l i).f1.f2) ∧
    w.frozen? ⟨g, i * 4, none⟩ = false ∧ w.frozen? ⟨g, i * 4 + 1, none⟩ = false ∧ w.frozen? ⟨g, i * 4 + 2, none⟩ = false ∧ w.frozen? ⟨g, i * 4 + 3, none⟩ = false := by
  obtain ⟨cs, hl, hM, hc, hf⟩ := Kd.R_elem h.sl z33 i (by omega) (by omega)
  rw [Int.toNat_natCast] at hM hc hf
  obtain rfl := k33_openM hM
  exact ⟨hc 0 _ rfl, hc 1 _ rfl, hc 2 _ rfl, hc 3 _ rfl, hf 0, hf 1, hf 2, hf 3⟩
/-- The slots with one set. -/
theorem HeapAt.put {w : World} {base a b n g c : Nat} {l : List Slot} {f : Int → Option Int} (h : HeapAt w base a b n (.slice (some ⟨g, 0, none⟩) l.length c) l f) (i : Nat) (hi : i < l.length) (s : Slot) :
    HeapAt (w.setCells g (i * 4) (cells s)) base a b n (.slice (some ⟨g, 0, none⟩) l.length c) (l.set i s) f ∧ w.grownBy (w.setCells g (i * 4) (cells s)) (some g) := by
  obtain ⟨_, _, he, h1, h2, h3, h4, h5⟩ := h.form (by omega)
  injection he with he
  injection he with he
  injection he with he
  subst he
  obtain ⟨cs, hl, hM, hc, hf⟩ := Kd.R_elem h.sl z33 i (by omega) (by omega)
  obtain ⟨hR, hG⟩ := Kd.R_seg (okp := fun k => True ∧ k ≠ g) (seg := cells s) (j := 0) (x' := s) h.sl i (by omega) (by omega) hl hc (by simp [cells]; exact Nat.le_refl 4) (by
    obtain rfl := k33_openM hM
    exact k33_mkM _ _ _ s) (fun k hk => hk)
  rw [Int.toNat_natCast] at hR hG
  exact ⟨⟨(hG.block a (blk_lt h.hd) (by intro e; injection e with e; exact h2 e.symm)).trans h.hd, hR, h.mp.kept (hG.block b h.mp.lt (by intro e; injection e with e; exact h3 e.symm)), h.ha, h.hb⟩, hG⟩
theorem HeapAt.turn {w w' : World} {base a b n n' : Nat} {v : Value} {l : List Slot} {f f' : Int → Option Int} (h : HeapAt w base a b n v l f) (hT : w.mapTurned w' b) (hM : MapF elI 3 w' b n' f') : HeapAt w' base a b n' v l f' := by
  obtain ⟨es, ck, h4⟩ := h.mp.block
  have hab : a ≠ b := fun e => by subst e; rw [h.hd] at h4; simp at h4
  refine ⟨(turned_heap hT hab).trans h.hd, ?_, hM, h.ha, h.hb⟩
  refine Kd.R_step (Kd.R_bound h.sl |> fun q => Kd.R_mono q (ok' := fun k => k ≠ b) (fun k hk e => ?_)) (fun k hk _ => turned_heap hT hk) |> fun q => Kd.R_mono q (fun _ _ => trivial)
  subst e
  obtain ⟨_, _, _, q, _, cs, hc⟩ := hk
  rw [h4] at hc
  simp at hc
theorem Keep3.of_turned {w w' : World} {a b : Nat} {v : Value} (h : w.mapTurned w' b) : Keep3 w w' a b v := Keep3.of_grown h.grown (.inr (.inl rfl))
theorem HeapAt.drew {w : World} {base a b n : Nat} {v : Value} {l : List Slot} {f : Int → Option Int} (h : HeapAt w base a b n v l f) : HeapAt w.drew base a b n v l f := h.of_below (below_drew (Below.refl _ _))
theorem Keep3.drew {w w' : World} {a b : Nat} {v : Value} (h : Keep3 w w' a b v) : Keep3 w w'.drew a b v := ⟨h.os, h.tape, h.output, h.size, h.blk⟩
theorem two_new (w : World) (A B : Obj) : Below w.heap.size w ((w.alloc A).alloc B).drew ∧ ((w.alloc A).alloc B).drew.heap[w.heap.size]? = some A ∧ ((w.alloc A).alloc B).drew.heap[w.heap.size + 1]? = some B := by
  have h1 := heap_alloc_new w A
  have h2 := heap_alloc_new (w.alloc A) B
  have hz : (w.alloc A).heap.size = w.heap.size + 1 := by simp
  rw [hz] at h2
  exact ⟨below_drew1 (below_alloc (below_alloc (Below.refl _ _) A) B), blk_below h1 (below_drew1 (below_alloc (Below.refl _ _) B)), h2⟩
end Go.Proofs.Ytejhkadalahcjaa.XHeap
