/- heap.Heap, walked: Put. -/
import Derived.Test.YtejhkadalahcjaaXHeapDown
import Derived.Deep.DeepMust
namespace Go.Proofs.Ytejhkadalahcjaa.XHeap
open Go.RowKit Go.Proofs.YtejhkadalahcjaaW.PrintWords Go.Proofs.YtejhkadalahcjaaW.PrintLast Go.Proofs.YtejhkadalahcjaaW.PrintMore Go.Proofs.Ytejhkadalahcjaa.XBetter Go.Proofs.Ytejhkadalahcjaa.XMap Go.Proofs.Ytejhkadalahcjaa.PA
set_option linter.unusedVariables false
set_option linter.unusedSimpArgs false
theorem upL_length (l : List Slot) (i : Nat) : (upL l i).1.length = l.length := by
  unfold upL
  split
  · rename_i h
    rw [upL_length, swapL_length]
  · rfl
termination_by i
decreasing_by omega
theorem upL_le (l : List Slot) (i : Nat) : (upL l i).2 ≤ i := by
  unfold upL
  split
  · rename_i h
    have := upL_le (swapL l i ((i - 1) / 2)) ((i - 1) / 2)
    omega
  · exact Nat.le_refl _
termination_by i
decreasing_by omega
theorem downL_length (l : List Slot) (i : Nat) : (downL l i).length = l.length := by
  unfold downL
  split
  · rename_i h
    rw [downL_length, swapL_length]
  · rfl
termination_by l.length - i
decreasing_by rw [swapL_length]; omega
def setUp (l : List Slot) (i : Nat) : List Slot := downL (upL l i).1 (upL l i).2
def putAt (l : List Slot) (s : Slot) : Option Int → List Slot
  | some i => setUp (l.set i.toNat s) i.toNat
  | none => setUp (l ++ [s]) l.length
def putL (l : List Slot) (s : Slot) : List Slot := putAt l s (ix l s.f0)
def Grew (w : World) (v v' : Value) : Prop := v'.ownBlock = v.ownBlock ∨ ∃ g, v'.ownBlock = some g ∧ w.heap.size ≤ g
theorem look_had {w : World} {base a b n : Nat} {v : Value} {l : List Slot} {f : Int → Option Int} (h : HeapAt w base a b n v l f) {id i : Int} (hid : i64ok id) (hf : f id = some i) :
    Sem.run Try.prog (Instr.lookup 60 (.map (some b)) (.int .i64 id) true) w = .ok (.tuple #[.int .i64 i, .bool true]) w := by
  have := h.mp.look_ok Try.underlying3 Try.underlying60 hid
  rw [hf] at this
  exact this
theorem look_not {w : World} {base a b n : Nat} {v : Value} {l : List Slot} {f : Int → Option Int} (h : HeapAt w base a b n v l f) {id : Int} (hid : i64ok id) (hf : f id = none) :
    Sem.run Try.prog (Instr.lookup 60 (.map (some b)) (.int .i64 id) true) w = .ok (.tuple #[.int .i64 0, .bool false]) w := by
  have := h.mp.look_ok Try.underlying3 Try.underlying60 hid
  rw [hf] at this
  exact this
theorem Fine.set {l : List Slot} (h : Fine l) {i : Nat} (hi : i < l.length) {s : Slot} (hs : s.f0 = (at_ l i).f0) : Fine (l.set i s) := by
  have hm : (l.set i s).map (·.f0) = l.map (·.f0) := by
    rw [List.map_set, hs]
    apply List.ext_getElem?
    intro j
    rw [List.getElem?_set]
    split
    · rename_i e
      subst e
      rw [List.getElem?_map, at_get hi]
      simp [hi]
    · rfl
  refine ⟨by rw [hm]; exact h.nd, fun t ht => ?_, by rw [List.length_set]; exact h.len⟩
  rcases List.mem_or_eq_of_mem_set ht with ht | rfl
  · exact h.ok t ht
  · rw [hs]; exact h.ok _ (at_mem hi)
theorem ix_set {l : List Slot} (h : Fine l) {i : Nat} (hi : i < l.length) {s : Slot} (hs : s.f0 = (at_ l i).f0) (x : Int) : upd (ix l) s.f0 (some (i : Int)) x = ix (l.set i s) x := by
  refine ix_of (h.set hi hs) (fun j hj => ?_) (fun y hy => ?_) x
  · rw [List.length_set] at hj
    rw [at_set hi]
    unfold upd
    by_cases c : j = i
    · rw [if_pos c, if_pos rfl, c]
    · rw [if_neg c, if_neg (fun e => c (h.inj hj hi (e.trans hs))), ix_at h hj]
  · unfold upd
    have hsm : s ∈ l.set i s := List.mem_set hi s
    rw [if_neg (fun e => hy s hsm e.symm)]
    refine ix_none (fun t ht => ?_)
    intro e
    obtain ⟨j, hj, rfl⟩ := List.getElem_of_mem ht
    have hg := at_get hj
    rw [List.getElem?_eq_getElem hj] at hg
    injection hg with hg
    rw [hg] at e
    by_cases c : j = i
    · subst c
      exact hy s hsm (hs.trans e)
    · exact hy (at_ l j) (by
        have := at_mem (l := l.set i s) (i := j) (by rw [List.length_set]; exact hj)
        rwa [at_set hi, if_neg c] at this) e
theorem at_append {l : List Slot} (t : Slot) (j : Nat) : at_ (l ++ [t]) j = if j = l.length then t else at_ l j := by
  unfold at_
  rw [List.getD_eq_getElem?_getD, List.getD_eq_getElem?_getD]
  by_cases c : j < l.length
  · rw [List.getElem?_append_left c, if_neg (by omega)]
  · rw [List.getElem?_append_right (by omega)]
    by_cases c2 : j = l.length
    · subst c2; simp
    · rw [if_neg c2, List.getElem?_eq_none (by simp; omega), List.getElem?_eq_none (by omega)]
theorem Fine.append {l : List Slot} (h : Fine l) {s : Slot} (hs : i64ok s.f0) (hn : ix l s.f0 = none) (hl : l.length < 4096) : Fine (l ++ [s]) := by
  refine ⟨?_, fun t ht => ?_, by simp; omega⟩
  · rw [List.map_append, List.nodup_append]
    refine ⟨h.nd, by simp, fun x hx y hy => ?_⟩
    simp only [List.map_cons, List.map_nil, List.mem_singleton] at hy
    subst hy
    rintro rfl
    rw [List.mem_map] at hx
    obtain ⟨t, ht, he⟩ := hx
    obtain ⟨i, hi, rfl⟩ := List.getElem_of_mem ht
    have hg := at_get hi
    rw [List.getElem?_eq_getElem hi] at hg
    injection hg with hg
    rw [hg] at he
    rw [← he, ix_at h hi] at hn
    cases hn
  · rw [List.mem_append] at ht
    rcases ht with ht | ht
    · exact h.ok t ht
    · simp only [List.mem_singleton] at ht
      subst ht
      exact hs
theorem ix_append {l : List Slot} (h : Fine l) {s : Slot} (hs : i64ok s.f0) (hn : ix l s.f0 = none) (hl : l.length < 4096) (x : Int) : upd (ix l) s.f0 (some (l.length : Int)) x = ix (l ++ [s]) x := by
  refine ix_of (h.append hs hn hl) (fun j hj => ?_) (fun y hy => ?_) x
  · rw [at_append]
    unfold upd
    by_cases c : j = l.length
    · rw [if_pos c, if_pos rfl, c]
    · have hj' : j < l.length := by simp at hj; omega
      rw [if_neg c, if_neg (fun e => ?_), ix_at h hj']
      rw [← e, ix_at h hj'] at hn
      cases hn
  · unfold upd
    rw [if_neg (fun e => hy s (by simp) e.symm)]
    exact ix_none (fun t ht => hy t (by simp [ht]))
theorem HA.mk' {w : World} {base a b n : Nat} {v : Value} {l : List Slot} {f : Int → Option Int} (h : HeapAt w base a b n v l f) (hf : Fine l) (hn : n = l.length) (hg : ∀ x, f x = ix l x) : HA w base a b v l := by
  subst hn
  exact ⟨h.to_map hg, hf⟩
set_option maxRecDepth 100000 in
theorem put_had {w : World} {base a b : Nat} {v : Value} {l : List Slot} (h : HA w base a b v l) (s : Slot) (hs : i64ok s.f0) (i : Nat) (hi : i < l.length) (he : s.f0 = (at_ l i).f0) :
    Calls Try.prog 22 #[.pointer (some ⟨a, 0, none⟩), .int .i64 s.f0, .agg #[.int .i64 s.f1.f0, .int .i64 s.f1.f1, .int .i64 s.f1.f2]] w fun e w' => e = .returned (.bool false) ∧ HA w' base a b v (setUp (l.set i s) i) ∧ Keep3 w w' a b v := by
  have hix : ix l s.f0 = some (i : Int) := by rw [he, ix_at h.fine hi]
  have HE := Aside0.mk he
  clear he
  go_enter Try.func22, Try.ntmps22
  have hW : Below w.heap.size w (w.alloc (Obj.cells #[Value.int IntKind.i64 s.f1.f0, Value.int IntKind.i64 s.f1.f1, Value.int IntKind.i64 s.f1.f2] 31)) := below_alloc (Below.refl _ _) _
  have hB := heap_alloc_new w (Obj.cells #[Value.int IntKind.i64 s.f1.f0, Value.int IntKind.i64 s.f1.f1, Value.int IntKind.i64 s.f1.f2] 31)
  have h1 := (h.of_below hW).mem.c1
  have hlk := look_had (h.of_below hW).mem hs hix
  have HX := Aside0.mk hix
  clear hix
  have hal := blk_lt h.mem.hd
  have hk := Keep3.of_below (a := a) (b := b) (v := v) hW
  have hfine := h.fine
  replace h := (h.of_below hW).mem
  obtain ⟨g, c, rfl, n1⟩ := h.form (by omega)
  go_wp2_with fail
  generalize w.alloc (Obj.cells #[Value.int IntKind.i64 s.f1.f0, Value.int IntKind.i64 s.f1.f1, Value.int IntKind.i64 s.f1.f2] 31) = W at h hk hW hB h1 hlk ⊢
  refine (lay_calls h rfl i hi hfine.len s hs hfine.len).mono ?_
  rintro e w1 ⟨rfl, h2, k2⟩
  clear h1 hlk hB
  have h3 : HA w1 base a b (.slice (some ⟨g, 0, none⟩) l.length c) (l.set i s) := HA.mk' h2 (hfine.set hi HE.out) (by rw [HX.out]; simp) (ix_set hfine hi HE.out)
  clear h2 h hW
  go_wp2_with fail
  refine (up_calls h3 i (by rw [List.length_set]; exact hi)).mono ?_
  rintro e w2 ⟨rfl, h4, k4⟩
  go_wp2_with fail
  refine (down_calls h4 _ (by have := upL_le (l.set i s) i; have := upL_length (l.set i s) i; rw [List.length_set] at this; omega)).mono ?_
  rintro e w3 ⟨rfl, h5, k5⟩
  go_wp2
  go_ret
  exact ⟨rfl, h5, ((hk.trans k2 (.inl rfl)).trans k4 (.inl rfl)).trans k5 (.inl rfl)⟩
theorem infoSlot : (Try.prog.info? 33).map (fun i => (i.zero, i.size, i.bytes)) = some (some (.agg #[.int .i64 0, .int .i64 0, .int .i64 0, .int .i64 0]), 4, 32) := by kernel_rfl
/-- The slots' row is another one. -/
theorem HeapAt.reslice {w w1 : World} {base a b n : Nat} {v v1 : Value} {l l1 : List Slot} {f : Int → Option Int} (h : HeapAt w base a b n v l f) (hR : kSlot.R 33 w1 base (fun _ => True) v1 l1) (ha : w1.heap[a]? = w.heap[a]?) (hb : w1.heap[b]? = w.heap[b]?) :
    HeapAt (w1.setCell ⟨a, 0, none⟩ v1) base a b n v1 l1 f := by
  have hd := blk_set (ha.trans h.hd) 0 v1
  obtain ⟨es, ck, h4⟩ := h.mp.block
  have hab : a ≠ b := fun e => by subst e; rw [h.hd] at h4; simp at h4
  refine ⟨hd, Kd.R_set hR (ha.trans h.hd) (by decide) 0 v1, h.mp.kept ((Below.heap_setCell w1 ⟨a, 0, none⟩ v1 b hab.symm).trans hb), h.ha, h.hb⟩
set_option maxRecDepth 100000 in
theorem put_new {w : World} {base a b : Nat} {v : Value} {l : List Slot} (h : HA w base a b v l) (s : Slot) (hs : i64ok s.f0) (hix : ix l s.f0 = none) (hl : l.length < 4096) :
    Calls Try.prog 22 #[.pointer (some ⟨a, 0, none⟩), .int .i64 s.f0, .agg #[.int .i64 s.f1.f0, .int .i64 s.f1.f1, .int .i64 s.f1.f2]] w fun e w' => e = .returned (.bool true) ∧ ∃ v', HA w' base a b v' (setUp (l ++ [s]) l.length) ∧ Keep3 w w' a b v ∧ Grew w v v' := by
  have HN := Aside0.mk hix
  go_enter Try.func22, Try.ntmps22
  have hW : Below w.heap.size w (w.alloc (Obj.cells #[Value.int IntKind.i64 s.f1.f0, Value.int IntKind.i64 s.f1.f1, Value.int IntKind.i64 s.f1.f2] 31)) := below_alloc (Below.refl _ _) _
  have hB := heap_alloc_new w (Obj.cells #[Value.int IntKind.i64 s.f1.f0, Value.int IntKind.i64 s.f1.f1, Value.int IntKind.i64 s.f1.f2] 31)
  have h1 := (h.of_below hW).mem.c1
  have h0 := (h.of_below hW).mem.c0
  have hlk := look_not (h.of_below hW).mem hs hix
  clear hix
  have hal := blk_lt h.mem.hd
  have hk := Keep3.of_below (a := a) (b := b) (v := v) hW
  have hfine := h.fine
  have hbz : base ≤ w.heap.size := Nat.le_of_lt (Nat.lt_of_le_of_lt h.mem.ha hal)
  replace h := (h.of_below hW).mem
  obtain ⟨A, c, rfl⟩ := Kd.R_slice h.sl
  have hWz := hW.size
  go_upto_region 3 with (fail)
  generalize w.alloc (Obj.cells #[Value.int IntKind.i64 s.f1.f0, Value.int IntKind.i64 s.f1.f1, Value.int IntKind.i64 s.f1.f2] 31) = W at h hk hW hB h1 h0 hlk hWz ⊢
  go_upto_region 6 with (fail)
  generalize hv : Value.slice A l.length c = v at h hk h0 ⊢
  have HV := Aside0.mk hv
  clear hv
  go_wp2_with (first | ((with_reducible refine gate_dst (N := 33) rfl ?_); refine Kd.event_run (v := .slice (some ⟨W.heap.size, 0, none⟩) 1 1) (w1 := W.alloc (.cells #[.int .i64 0, .int .i64 0, .int .i64 0, .int .i64 0] 33)) ?hg ?hr ?_; (case hg => rfl); (case hr => first | (go_simp; done) | (go_simp; rfl)); refine Kd.R_append kSlot (w0 := W) base rfl (.tmp 31) (.tmp 33) 49 33 (.agg #[.int .i64 0, .int .i64 0, .int .i64 0, .int .i64 0]) 32 rfl Try.underlying49 infoSlot rfl (by decide) (by omega) v l z33 [.int .i64 0, .int .i64 0, .int .i64 0, .int .i64 0] (fun _ => True) (fun _ => False) rfl rfl ?aP (fun _ hq => hq.elim) ?aF ?aO ?aB ?aS ?aL ?_; (case aP => exact k33_mkM _ _ _ z33); (case aF => exact (fun _ _ => trivial)); (case aO => exact h.sl); (case aB => exact Below.refl _ _); (case aS => exact Nat.le_trans hbz hWz); (case aL => omega); intro v1 w1 ho hb1 hg hat; obtain ⟨A1, c1, rfl⟩ := Kd.R_slice ho; have hd1 := blk_grown h.hd hg (Kd.R_ne h.sl h.hd (by decide)); have ca : w1.cell? ⟨a, 0, none⟩ = some v := (blk_cell hd1 0).trans rfl; have cf := blk_frozen hd1 0; have hB1 := blk_grown hB hg (Kd.R_ne h.sl hB (by decide)); have e0 : w1.cell? ⟨w.heap.size, 0, none⟩ = some (.int .i64 s.f1.f0) := (blk_cell hB1 0).trans rfl; have e1 : w1.cell? ⟨w.heap.size, 1, none⟩ = some (.int .i64 s.f1.f1) := (blk_cell hB1 1).trans rfl; have e2 : w1.cell? ⟨w.heap.size, 2, none⟩ = some (.int .i64 s.f1.f2) := (blk_cell hB1 2).trans rfl; have m1 : a ≠ w.heap.size := Nat.ne_of_lt hal; have m2 : w.heap.size ≠ a := m1.symm))
  have hbl : b ≠ a := fun e => by
    obtain ⟨es, ck, h4⟩ := h.mp.block
    subst e
    rw [h.hd] at h4
    simp at h4
  obtain ⟨es, ck, hmb⟩ := h.mp.block
  have hbv : w1.heap[b]? = W.heap[b]? := by
    refine hg.block b h.mp.lt (fun e => ?_)
    obtain ⟨cs, hcs⟩ := Kd.R_typed h.sl b e.symm
    rw [hmb] at hcs
    simp at hcs
  have h2 := h.reslice ho (hd1.trans h.hd.symm) hbv
  have hk2 : Keep3 w (w1.setCell ⟨a, 0, none⟩ (.slice A1 (l ++ [z33]).length c1)) a b v := by
    refine ⟨hg.os.trans hk.os, hg.tape.trans hk.tape, hg.output.trans hk.output, by simpa [World.setCell] using Nat.le_trans hk.size hg.size, fun i hi hia hib hiv => ?_⟩
    exact (Below.heap_setCell w1 ⟨a, 0, none⟩ _ i hia).trans ((hg.block i (Nat.lt_of_lt_of_le hi hk.size) hiv).trans (hk.blk i hi hia hib hiv))
  clear hd1 ca cf hB1 e0 e1 e2 hB hk h1 h0 hlk
  have hll : (l ++ [z33]).length = l.length + 1 := by simp
  rw [hll] at h2 ho hat hk2
  refine (lay_calls_any h2 l.length (by omega) (by omega) s hs (by omega)).mono ?_
  rintro e w2 ⟨rfl, h3, k3⟩
  have hset : (l ++ [z33]).set l.length s = l ++ [s] := by
    rw [List.set_append_right _ _ (Nat.le_refl _)]
    simp
  rw [if_neg (by rw [HN.out]; simp), hset] at h3
  have h4 : HA w2 base a b (.slice A1 (l.length + 1) c1) (l ++ [s]) := HA.mk' h3 (hfine.append hs HN.out hl) (by simp) (ix_append hfine hs HN.out hl)
  have hgr : Grew w v (.slice A1 (l.length + 1) c1) := by
    rcases hat with e | ⟨q, e, hq⟩
    · exact .inl e
    · exact .inr ⟨q, e, Nat.le_trans hWz hq⟩
  clear h3 hset h2 hb1 hg hmb hbv ho hat hll h hW
  go_wp2_with fail
  refine (up_calls h4 l.length (by simp)).mono ?_
  rintro e w3 ⟨rfl, h5, k5⟩
  go_wp2_with fail
  refine (down_calls h5 _ (by have := upL_le (l ++ [s]) l.length; have := upL_length (l ++ [s]) l.length; simp at this; omega)).mono ?_
  rintro e w4 ⟨rfl, h6, k6⟩
  go_wp2
  go_ret
  rw [HV.out]
  refine ⟨rfl, _, h6, ?_, hgr⟩
  have hk5 := (k3.trans k5 (.inl rfl)).trans k6 (.inl rfl)
  exact hk2.trans hk5 hgr
end Go.Proofs.Ytejhkadalahcjaa.XHeap
