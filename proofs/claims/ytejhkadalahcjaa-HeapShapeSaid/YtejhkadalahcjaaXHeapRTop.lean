/- The reference's heap, walked: Top. -/
import Derived.Test.YtejhkadalahcjaaXHeapRDrop
namespace Go.Proofs.Ytejhkadalahcjaa.XHeap
open Go.RowKit Go.Proofs.YtejhkadalahcjaaW.PrintWords Go.Proofs.YtejhkadalahcjaaW.PrintLast Go.Proofs.YtejhkadalahcjaaW.PrintMore Go.Proofs.Ytejhkadalahcjaa.XBetter Go.Proofs.Ytejhkadalahcjaa.XMap Go.Proofs.Ytejhkadalahcjaa.PA
set_option linter.unusedVariables false
set_option linter.unusedSimpArgs false
theorem bet_ref (s t : Slot) : rollcallref10_Better.f s.f0 s.f1.f0 s.f1.f1 s.f1.f2 t.f0 t.f1.f0 t.f1.f1 t.f1.f2 = some (bet s t) := by
  unfold rollcallref10_Better.f bet lex3 cmpI
  congr 1
  by_cases h0 : s.f1.f0 = t.f1.f0
  · by_cases h1 : s.f1.f1 = t.f1.f1
    · by_cases h2 : s.f1.f2 = t.f1.f2
      · simp [h0, h1, h2]
      · rcases Int.lt_or_gt_of_ne h2 with c | c
        · simp [h0, h1, h2, c]; omega
        · have : ¬ s.f1.f2 < t.f1.f2 := by omega
          simp [h0, h1, h2, c, this]
    · rcases Int.lt_or_gt_of_ne h1 with c | c
      · simp [h0, h1, c]; omega
      · have : ¬ s.f1.f1 < t.f1.f1 := by omega
        simp [h0, h1, c, this]
  · rcases Int.lt_or_gt_of_ne h0 with c | c
    · simp [h0, c]; omega
    · have : ¬ s.f1.f0 < t.f1.f0 := by omega
      simp [h0, c, this]
theorem betR_calls (s t : Slot) (w : World) : Calls Try.prog 17 #[.agg #[.int .i64 s.f0, .int .i64 s.f1.f0, .int .i64 s.f1.f1, .int .i64 s.f1.f2], .agg #[.int .i64 t.f0, .int .i64 t.f1.f0, .int .i64 t.f1.f1, .int .i64 t.f1.f2]] w fun e w' => e = .returned (.bool (bet s t)) ∧ Below w.heap.size w w' :=
  rollcallref10_Better.calls _ _ _ _ _ _ _ _ _ w (bet_ref s t)
def bestTo (l : List Slot) : Nat → Slot
  | 0 => at_ l 0
  | k + 1 => if bet (at_ l (k + 1)) (bestTo l k) = true then at_ l (k + 1) else bestTo l k
def slotObj (s : Slot) : Obj := .cells #[.int .i64 s.f0, .int .i64 s.f1.f0, .int .i64 s.f1.f1, .int .i64 s.f1.f2] 37
theorem rtop_none {w : World} {base a : Nat} {v : Value} (h : RefAt w base a v []) : Calls Try.prog 12 #[.pointer (some ⟨a, 0, none⟩)] w fun e w' => e = .returned (.tuple #[.agg #[.int .i64 0, .int .i64 0, .int .i64 0, .int .i64 0], .bool false]) ∧ Below w.heap.size w w' := by
  have h0 := (h.of_below (below_alloc (Below.refl w.heap.size w) (Obj.cells #[.int .i64 0, .int .i64 0, .int .i64 0, .int .i64 0] 37))).c0
  obtain ⟨A, c, rfl⟩ := Kd.R_slice h.sl
  simp only [List.map_nil, List.length_nil] at h0
  go_enter Try.func12, Try.ntmps12
  go_wp2
  exact bodyPost_ret (v := .tuple #[.agg #[.int .i64 0, .int .i64 0, .int .i64 0, .int .i64 0], .bool false]) (by simp [results, Try.results12, go_sem]) rfl ⟨rfl, below_alloc (Below.refl _ _) _⟩
theorem two_new2 (w : World) (A B : Obj) : Below w.heap.size w ((w.alloc A).alloc B) ∧ ((w.alloc A).alloc B).heap[w.heap.size]? = some A ∧ ((w.alloc A).alloc B).heap[w.heap.size + 1]? = some B := by
  obtain ⟨h1, h2, h3⟩ := two_new w A B
  exact ⟨⟨h1.os, h1.tape, h1.output, h1.size, h1.block⟩, h2, h3⟩
def TopR (w : World) (B0 B1 : Nat) (l : List Slot) (x : Value) (wr : World) : Prop :=
  ∃ k : Nat, x = .int .i64 (k + 1 : Nat) ∧ k + 1 ≤ l.length ∧ (∃ zs : S37, wr.heap[B0]? = some (.cells #[.int .i64 zs.f0, .int .i64 zs.f1.f0, .int .i64 zs.f1.f1, .int .i64 zs.f1.f2] 37 (0, 0))) ∧ wr.heap[B1]? = some (slotObj (bestTo l k)) ∧ Below w.heap.size w wr
set_option maxRecDepth 100000 in
set_option maxHeartbeats 2000000 in
theorem rtop_some {w : World} {base a : Nat} {v : Value} {l : List Slot} (h : RefAt w base a v l) (hl : 0 < l.length) (hl2 : l.length ≤ 4096) : Calls Try.prog 12 #[.pointer (some ⟨a, 0, none⟩)] w fun e w' => e = .returned (.tuple #[.agg #[.int .i64 (bestTo l (l.length - 1)).f0, .int .i64 (bestTo l (l.length - 1)).f1.f0, .int .i64 (bestTo l (l.length - 1)).f1.f1, .int .i64 (bestTo l (l.length - 1)).f1.f2], .bool true]) ∧ Below w.heap.size w w' := by
  have hz := h.of_below (below_alloc (Below.refl w.heap.size w) (Obj.cells #[.int .i64 0, .int .i64 0, .int .i64 0, .int .i64 0] 37))
  have h0 := hz.c0
  obtain ⟨g, c, rfl, n1, n2, n3⟩ := h.form hl
  obtain ⟨p0, p1, p2, p3, _, _, _, _⟩ := hz.slot 0 hl
  simp only [Nat.zero_mul, Nat.zero_add] at p0 p1 p2 p3
  have hne : ((l.length : Int) == 0) = false := by simp; intro e; subst e; simp at hl
  have hne2 : (l.length == 0) = false := by simp; intro e; subst e; simp at hl
  have b1 : (0 : Int) < (l.length : Int) := by omega
  go_enter Try.func12, Try.ntmps12
  go_wp2
  obtain ⟨HB, HP, HQ⟩ := two_new2 w (Obj.cells #[.int .i64 0, .int .i64 0, .int .i64 0, .int .i64 0] 37) (Obj.cells #[.int .i64 (at_ l 0).f0, .int .i64 (at_ l 0).f1.f0, .int .i64 (at_ l 0).f1.f1, .int .i64 (at_ l 0).f1.f2] 37)
  clear p0 p1 p2 p3 h0 hz hne hne2
  generalize (w.alloc (Obj.cells #[.int .i64 0, .int .i64 0, .int .i64 0, .int .i64 0] 37)).alloc (Obj.cells #[.int .i64 (at_ l 0).f0, .int .i64 (at_ l 0).f1.f0, .int .i64 (at_ l 0).f1.f1, .int .i64 (at_ l 0).f1.f2] 37) = W at HB HP HQ ⊢
  go_loopw [5] (fun x wr => TopR w w.heap.size (w.heap.size + 1) l x wr) (fun x _ => l.length - (intOf x).toNat)
  case atStart => exact ⟨0, rfl, by omega, ⟨z37, HP⟩, HQ, HB⟩
  case round =>
    obtain ⟨k, rfl, hk, ⟨zs, hP⟩, hQ, hb⟩ := hrel
    clear HB HP HQ
    have hr := h.of_below hb
    have h0 := hr.c0
    have e0 : wr.cell? ⟨w.heap.size + 1, 0, none⟩ = some (.int .i64 (bestTo l k).f0) := (blk_cell hQ 0).trans rfl
    have e1 : wr.cell? ⟨w.heap.size + 1, 1, none⟩ = some (.int .i64 (bestTo l k).f1.f0) := (blk_cell hQ 1).trans rfl
    have e2 : wr.cell? ⟨w.heap.size + 1, 2, none⟩ = some (.int .i64 (bestTo l k).f1.f1) := (blk_cell hQ 2).trans rfl
    have e3 : wr.cell? ⟨w.heap.size + 1, 3, none⟩ = some (.int .i64 (bestTo l k).f1.f2) := (blk_cell hQ 3).trans rfl
    have b2 : (0 : Int) ≤ (k : Int) + 1 := by omega
    have b3 : ((k : Int) + 1).toNat = k + 1 := by omega
    have b4 : (k : Int) < 4096 := by omega
    rw [show ((k + 1 : Nat) : Int) = (k : Int) + 1 from rfl]
    by_cases hlt : k + 1 < l.length
    · have b5 : (k : Int) + 1 < (l.length : Int) := by omega
      obtain ⟨p0, p1, p2, p3, _, _, _, _⟩ := hr.slot (k + 1) hlt
      go_wp2
      go_region_held3 (fun w' => w'.cell? ⟨a, 0, none⟩ = some (.slice (some ⟨g, 0, none⟩) l.length c) ∧ (w'.cell? ⟨g, (k + 1) * 4, none⟩ = some (.int .i64 (at_ l (k + 1)).f0) ∧ w'.cell? ⟨g, (k + 1) * 4 + 1, none⟩ = some (.int .i64 (at_ l (k + 1)).f1.f0) ∧ w'.cell? ⟨g, (k + 1) * 4 + 2, none⟩ = some (.int .i64 (at_ l (k + 1)).f1.f1) ∧ w'.cell? ⟨g, (k + 1) * 4 + 3, none⟩ = some (.int .i64 (at_ l (k + 1)).f1.f2)) ∧ (w'.cell? ⟨w.heap.size + 1, 0, none⟩ = some (.int .i64 (bestTo l k).f0) ∧ w'.cell? ⟨w.heap.size + 1, 1, none⟩ = some (.int .i64 (bestTo l k).f1.f0) ∧ w'.cell? ⟨w.heap.size + 1, 2, none⟩ = some (.int .i64 (bestTo l k).f1.f1) ∧ w'.cell? ⟨w.heap.size + 1, 3, none⟩ = some (.int .i64 (bestTo l k).f1.f2))) (first | go_keep | (exact ⟨pw_cell_below hb1 h0, ⟨pw_cell_below hb1 p0, pw_cell_below hb1 p1, pw_cell_below hb1 p2, pw_cell_below hb1 p3⟩, pw_cell_below hb1 e0, pw_cell_below hb1 e1, pw_cell_below hb1 e2, pw_cell_below hb1 e3⟩)) (first | (go_at_call 17; refine (betR_calls (at_ l (k + 1)) (bestTo l k) _).mono ?_; rintro e w1 ⟨rfl, hb1⟩))
      have hbb : Below wr.heap.size wr w1 := (below_drew1 (Below.refl _ _)).trans hb1
      clear hb1 e0 e1 e2 e3
      replace hP := blk_below hP hbb
      replace hQ := blk_below hQ hbb
      replace hb := below_step hb hbb
      replace hr := h.of_below hb
      clear hbb p0 p1 p2 p3
      replace h0 := hr.c0
      obtain ⟨p0, p1, p2, p3, _, _, _, _⟩ := hr.slot (k + 1) hlt
      have f0 := blk_frozen hQ 0
      have f1 := blk_frozen hQ 1
      have f2 := blk_frozen hQ 2
      have f3 := blk_frozen hQ 3
      have e0 : w1.cell? ⟨w.heap.size + 1, 0, none⟩ = some (.int .i64 (bestTo l k).f0) := (blk_cell hQ 0).trans rfl
      have e1 : w1.cell? ⟨w.heap.size + 1, 1, none⟩ = some (.int .i64 (bestTo l k).f1.f0) := (blk_cell hQ 1).trans rfl
      have e2 : w1.cell? ⟨w.heap.size + 1, 2, none⟩ = some (.int .i64 (bestTo l k).f1.f1) := (blk_cell hQ 2).trans rfl
      have e3 : w1.cell? ⟨w.heap.size + 1, 3, none⟩ = some (.int .i64 (bestTo l k).f1.f2) := (blk_cell hQ 3).trans rfl
      go_wp2
      · have hbt : bet (at_ l (k + 1)) (bestTo l k) = true := by assumption
        have hbo : bestTo l (k + 1) = at_ l (k + 1) := by show (if _ then _ else _) = _; rw [if_pos hbt]
        go_roundw
        case rel =>
          refine ⟨k + 1, by go_num, by omega, ⟨zs, ?_⟩, ?_, ?_⟩
          · exact blk_far (blk_far (blk_far (blk_far hP (by simp) _) (by simp) _) (by simp) _) (by simp) _
          · rw [hbo]; exact blk_set (blk_set (blk_set (blk_set hQ 0 _) 1 _) 2 _) 3 _
          · exact below_set (below_set (below_set (below_set hb (by omega)) (by omega)) (by omega)) (by omega)
        case measure => simp [intOf]; omega
      · have hbt : bet (at_ l (k + 1)) (bestTo l k) = false := by assumption
        have hbo : bestTo l (k + 1) = bestTo l k := by show (if _ then _ else _) = _; rw [if_neg (by rw [hbt]; simp)]
        go_roundw
        case rel =>
          refine ⟨k + 1, by go_num, by omega, ⟨zs, hP⟩, ?_, hb⟩
          rw [hbo]; exact hQ
        case measure => simp [intOf]; omega
    · have b5 : (l.length : Int) ≤ (k : Int) + 1 := by omega
      have hkl : l.length - 1 = k := by omega
      have HKL := Aside0.mk hkl
      clear hkl
      have f0 := blk_frozen hP 0
      have f1 := blk_frozen hP 1
      have f2 := blk_frozen hP 2
      have f3 := blk_frozen hP 3
      have z0 : wr.cell? ⟨w.heap.size, 0, none⟩ = some (.int .i64 zs.f0) := (blk_cell hP 0).trans rfl
      have z1 : wr.cell? ⟨w.heap.size, 1, none⟩ = some (.int .i64 zs.f1.f0) := (blk_cell hP 1).trans rfl
      have z2 : wr.cell? ⟨w.heap.size, 2, none⟩ = some (.int .i64 zs.f1.f1) := (blk_cell hP 2).trans rfl
      have z3 : wr.cell? ⟨w.heap.size, 3, none⟩ = some (.int .i64 zs.f1.f2) := (blk_cell hP 3).trans rfl
      have hR := blk_set (blk_set (blk_set (blk_set hP 0 (.int .i64 (bestTo l k).f0)) 1 (.int .i64 (bestTo l k).f1.f0)) 2 (.int .i64 (bestTo l k).f1.f1)) 3 (.int .i64 (bestTo l k).f1.f2)
      have r0 := (blk_cell hR 0).trans (show _ = some (.int .i64 (bestTo l k).f0) from rfl)
      have r1 := (blk_cell hR 1).trans (show _ = some (.int .i64 (bestTo l k).f1.f0) from rfl)
      have r2 := (blk_cell hR 2).trans (show _ = some (.int .i64 (bestTo l k).f1.f1) from rfl)
      have r3 := (blk_cell hR 3).trans (show _ = some (.int .i64 (bestTo l k).f1.f2) from rfl)
      clear hR
      go_wp2
      exact bodyPost_ret (v := .tuple #[.agg #[.int .i64 (bestTo l k).f0, .int .i64 (bestTo l k).f1.f0, .int .i64 (bestTo l k).f1.f1, .int .i64 (bestTo l k).f1.f2], .bool true]) (by simp [results, Try.results12, go_sem, r0, r1, r2, r3]) rfl (by rw [HKL.out]; exact ⟨rfl, below_set (below_set (below_set (below_set hb (Nat.le_refl _)) (Nat.le_refl _)) (Nat.le_refl _)) (Nat.le_refl _)⟩)
end Go.Proofs.Ytejhkadalahcjaa.XHeap
