/- heap.Heap, walked: Drop. -/
import Derived.Test.YtejhkadalahcjaaXHeapPut
namespace Go.Proofs.Ytejhkadalahcjaa.XHeap
open Go.RowKit Go.Proofs.YtejhkadalahcjaaW.PrintWords Go.Proofs.YtejhkadalahcjaaW.PrintLast Go.Proofs.YtejhkadalahcjaaW.PrintMore Go.Proofs.Ytejhkadalahcjaa.XBetter Go.Proofs.Ytejhkadalahcjaa.XMap Go.Proofs.Ytejhkadalahcjaa.PA
set_option linter.unusedVariables false
set_option linter.unusedSimpArgs false
theorem fine_of {l : List Slot} (hok : ∀ s ∈ l, i64ok s.f0) (hl : l.length ≤ 4096) (hinj : ∀ i k, i < l.length → k < l.length → (at_ l i).f0 = (at_ l k).f0 → i = k) : Fine l := by
  refine ⟨?_, hok, hl⟩
  rw [List.nodup_iff_pairwise_ne, List.pairwise_iff_getElem]
  intro i j hi hj hij he
  rw [List.length_map] at hi hj
  have h1 := at_get hi
  have h2 := at_get hj
  rw [List.getElem?_eq_getElem hi] at h1
  rw [List.getElem?_eq_getElem hj] at h2
  injection h1 with h1
  injection h2 with h2
  rw [List.getElem_map, List.getElem_map, h1, h2] at he
  exact absurd (hinj i j hi hj he) (by omega)
theorem mem_at {l : List Slot} {s : Slot} (h : s ∈ l) : ∃ j, j < l.length ∧ at_ l j = s := by
  obtain ⟨j, hj, rfl⟩ := List.getElem_of_mem h
  refine ⟨j, hj, ?_⟩
  have := at_get hj
  rw [List.getElem?_eq_getElem hj] at this
  injection this with this
  exact this.symm
theorem at_take {l : List Slot} {m j : Nat} (hj : j < m) : at_ (l.take m) j = at_ l j := by
  unfold at_
  rw [List.getD_eq_getElem?_getD, List.getD_eq_getElem?_getD, List.getElem?_take, if_pos hj]
def cutL (l : List Slot) (i m : Nat) : List Slot := if i < m then (l.take m).set i (at_ l m) else l.take m
theorem cutL_length (l : List Slot) (i m : Nat) (h : l.length = m + 1) : (cutL l i m).length = m := by
  unfold cutL
  split
  · rw [List.length_set, List.length_take]; omega
  · rw [List.length_take]; omega
theorem at_cut {l : List Slot} {i m : Nat} (h : l.length = m + 1) (hi : i ≤ m) {j : Nat} (hj : j < m) : at_ (cutL l i m) j = if j = i then at_ l m else at_ l j := by
  unfold cutL
  by_cases c : i < m
  · rw [if_pos c, at_set (by rw [List.length_take]; omega)]
    split
    · rfl
    · exact at_take hj
  · rw [if_neg c, if_neg (by omega), at_take hj]
theorem Fine.cut {l : List Slot} (h : Fine l) {i m : Nat} (hm : l.length = m + 1) (hi : i ≤ m) : Fine (cutL l i m) := by
  refine fine_of (fun s hs => ?_) (by rw [cutL_length _ _ _ hm]; have := h.len; omega) (fun j k hj hk he => ?_)
  · obtain ⟨j, hj, rfl⟩ := mem_at hs
    rw [cutL_length _ _ _ hm] at hj
    rw [at_cut hm hi hj]
    split
    · exact h.ok _ (at_mem (by omega))
    · exact h.ok _ (at_mem (by omega))
  · rw [cutL_length _ _ _ hm] at hj hk
    rw [at_cut hm hi hj, at_cut hm hi hk] at he
    by_cases c1 : j = i
    · by_cases c2 : k = i
      · rw [c1, c2]
      · rw [if_pos c1, if_neg c2] at he
        have := h.inj (by omega) (by omega) he
        omega
    · by_cases c2 : k = i
      · rw [if_neg c1, if_pos c2] at he
        have := h.inj (by omega) (by omega) he
        omega
      · rw [if_neg c1, if_neg c2] at he
        exact h.inj (by omega) (by omega) he
theorem ix_cut_lt {l : List Slot} (h : Fine l) {i m : Nat} (hm : l.length = m + 1) (hi : i < m) (x : Int) : upd (upd (ix l) (at_ l i).f0 none) (at_ l m).f0 (some (i : Int)) x = ix (cutL l i m) x := by
  refine ix_of (h.cut hm (Nat.le_of_lt hi)) (fun j hj => ?_) (fun y hy => ?_) x
  · rw [cutL_length _ _ _ hm] at hj
    rw [at_cut hm (Nat.le_of_lt hi) hj]
    unfold upd
    by_cases c : j = i
    · rw [if_pos c, if_pos rfl, c]
    · rw [if_neg c, if_neg (fun e => by have := h.inj (by omega) (by omega) e; omega), if_neg (fun e => by have := h.inj (by omega) (by omega) e; omega), ix_at h (by omega)]
  · have hmem : ∀ j, j < m → at_ (cutL l i m) j ∈ cutL l i m := fun j hj => at_mem (by rw [cutL_length _ _ _ hm]; exact hj)
    unfold upd
    rw [if_neg (fun e => ?_)]
    · split
      · rfl
      · rename_i hne
        refine ix_none (fun s hs e => ?_)
        obtain ⟨j, hj, rfl⟩ := mem_at hs
        by_cases c1 : j = m
        · subst c1
          have := hy _ (hmem i hi)
          rw [at_cut hm (Nat.le_of_lt hi) hi, if_pos rfl] at this
          exact this e
        · by_cases c2 : j = i
          · subst c2
            exact hne e.symm
          · have := hy _ (hmem j (by omega))
            rw [at_cut hm (Nat.le_of_lt hi) (by omega), if_neg c2] at this
            exact this e
    · have := hy _ (hmem i hi)
      rw [at_cut hm (Nat.le_of_lt hi) hi, if_pos rfl] at this
      exact this e.symm
theorem ix_cut_last {l : List Slot} (h : Fine l) {m : Nat} (hm : l.length = m + 1) (x : Int) : upd (ix l) (at_ l m).f0 none x = ix (cutL l m m) x := by
  refine ix_of (h.cut hm (Nat.le_refl m)) (fun j hj => ?_) (fun y hy => ?_) x
  · rw [cutL_length _ _ _ hm] at hj
    rw [at_cut hm (Nat.le_refl m) hj, if_neg (by omega)]
    unfold upd
    rw [if_neg (fun e => by have := h.inj (by omega) (by omega) e; omega), ix_at h (by omega)]
  · unfold upd
    split
    · rfl
    · rename_i hne
      refine ix_none (fun s hs e => ?_)
      obtain ⟨j, hj, rfl⟩ := mem_at hs
      by_cases c1 : j = m
      · subst c1; exact hne e.symm
      · have := hy (at_ (cutL l m m) j) (at_mem (by rw [cutL_length _ _ _ hm]; omega))
        rw [at_cut hm (Nat.le_refl m) (by omega), if_neg c1] at this
        exact this e
def dropAt (l : List Slot) : Option Int → List Slot
  | some i => if i.toNat < l.length - 1 then setUp (cutL l i.toNat (l.length - 1)) i.toNat else cutL l i.toNat (l.length - 1)
  | none => l
def dropL (l : List Slot) (id : Int) : List Slot := dropAt l (ix l id)
theorem drop_not {w : World} {base a b : Nat} {v : Value} {l : List Slot} (h : HA w base a b v l) (id : Int) (hid : i64ok id) (hix : ix l id = none) :
    Calls Try.prog 21 #[.pointer (some ⟨a, 0, none⟩), .int .i64 id] w fun e w' => e = .returned (.bool false) ∧ w' = w := by
  have h1 := h.mem.c1
  have hlk := look_not h.mem hid hix
  clear hix
  go_enter Try.func21, Try.ntmps21
  go_wp2
  go_ret
  exact ⟨rfl, rfl⟩
set_option maxRecDepth 100000 in
theorem drop_had {w : World} {base a b : Nat} {v : Value} {l : List Slot} (h : HA w base a b v l) (i m : Nat) (hm : l.length = m + 1) (hi : i ≤ m) :
    Calls Try.prog 21 #[.pointer (some ⟨a, 0, none⟩), .int .i64 (at_ l i).f0] w fun e w' => e = .returned (.bool true) ∧ ∃ v', HA w' base a b v' (if i < m then setUp (cutL l i m) i else cutL l i m) ∧ Keep3 w w' a b v ∧ Grew w v v' := by
  have hfine := h.fine
  have hid := hfine.ok _ (at_mem (l := l) (i := i) (by omega))
  have hixi := ix_at hfine (i := i) (by omega)
  have h1 := h.mem.c1
  obtain ⟨g, c, rfl, n1, n2, n3, n4, n5⟩ := h.mem.form (by omega)
  have h0 := h.mem.c0
  have hf0 := blk_frozen h.mem.hd 0
  obtain ⟨p0, p1, p2, p3, _, _, _, _⟩ := h.mem.slot m (by omega)
  have hcap := (Kd.R_reads' h.mem.sl).2.1
  have b0 : (m : Int) ≤ (c : Int) := by omega
  have b1 : (m : Int) + 1 ≤ (c : Int) := by omega
  have b2 : (i : Int) ≤ (m : Int) := by omega
  have b3 : (m : Int) < 4096 := by have := hfine.len; omega
  have hlk := look_had h.mem hid hixi
  have HX := Aside0.mk hixi
  have HM := Aside0.mk hm
  have o0 := World.new_ne w _ h0
  have o1 := World.new_ne w _ p0
  rw [hm] at h0
  clear hixi
  generalize hi0 : (at_ l i).f0 = id at hid hlk ⊢
  have HI := Aside0.mk hi0
  clear hi0 hm
  go_enter Try.func21, Try.ntmps21
  go_upto_region 8 with (fail)
  have hW : Below w.heap.size w (w.alloc (Obj.cells #[.int .i64 (at_ l m).f0, .int .i64 (at_ l m).f1.f0, .int .i64 (at_ l m).f1.f1, .int .i64 (at_ l m).f1.f2] 33)) := below_alloc (Below.refl _ _) _
  have hB := heap_alloc_new w (Obj.cells #[.int .i64 (at_ l m).f0, .int .i64 (at_ l m).f1.f0, .int .i64 (at_ l m).f1.f1, .int .i64 (at_ l m).f1.f2] 33)
  generalize w.alloc (Obj.cells #[.int .i64 (at_ l m).f0, .int .i64 (at_ l m).f1.f0, .int .i64 (at_ l m).f1.f1, .int .i64 (at_ l m).f1.f2] 33) = W at hW hB ⊢
  have hal := blk_lt h.mem.hd
  have hk := Keep3.of_below (a := a) (b := b) (v := .slice (some ⟨g, 0, none⟩) l.length c) hW
  replace h := h.of_below hW
  replace h1 := h.mem.c1
  replace h0 := h.mem.c0
  replace hf0 := blk_frozen h.mem.hd 0
  clear p0 p1 p2 p3 hlk
  rw [HM.out] at h0
  obtain ⟨iS, hiS, _, hzS, _⟩ := info_parts infoSlot
  have hcut := cut_to (P := Try.prog) 49 33 .i64 Try.underlying49 hiS (some ⟨g, 0, none⟩) (m + 1) c m (by omega) (by omega) (by have := HM.out; omega)
  rw [Int.toNat_natCast] at hcut
  go_upto_region 9 with (fail)
  have hr := h.mem.reslice (v1 := .slice (some ⟨g, 0, none⟩) m c) (Kd.R_take h.mem.sl (m := m) (by have := HM.out; omega)) rfl rfl
  have hB2 := (Below.heap_setCell W ⟨a, 0, none⟩ (.slice (some ⟨g, 0, none⟩) m c) w.heap.size (by omega)).trans hB
  have hk2 : Keep3 w (W.setCell ⟨a, 0, none⟩ (.slice (some ⟨g, 0, none⟩) m c)) a b (.slice (some ⟨g, 0, none⟩) l.length c) :=
    ⟨hk.os, hk.tape, hk.output, by simpa [World.setCell] using hk.size, fun i hi hia hib hiv => (Below.heap_setCell W ⟨a, 0, none⟩ _ i hia).trans (hk.blk i hi hia hib hiv)⟩
  clear hB hk h h1 h0 hf0 hcut hW
  generalize W.setCell ⟨a, 0, none⟩ (.slice (some ⟨g, 0, none⟩) m c) = W2 at hr hB2 hk2 ⊢
  have h1 := hr.c1
  go_upto_region 10 with (first | (at_delete; refine wp_del elI rfl _ _ rfl Try.underlying3 Try.underlying60 rfl hr.mp id rfl hid ?_; intro w3 hM hT; clear h1))
  have h3 := hr.turn hT hM
  have hid2 : (ix l id).isSome = true := by rw [← HI.out, HX.out]; rfl
  rw [if_pos hid2] at h3
  have hb3 : b < w.heap.size ∨ True := .inr trivial
  have hbB : w.heap.size ≠ b := fun e => by
    obtain ⟨es, ck, h4⟩ := hr.mp.block
    rw [← e, hB2] at h4
    simp at h4
  have hB3 := (turned_heap hT hbB).trans hB2
  have hk3 := hk2.trans (Keep3.of_turned (v := .slice (some ⟨g, 0, none⟩) l.length c) hT) (.inl rfl)
  clear hM hT hB2 hk2 hr hid2 hb3
  have hlen : l.length - 1 = m := by have := HM.out; omega
  rw [hlen] at h3
  clear hlen
  have e0 : w3.cell? ⟨w.heap.size, 0, none⟩ = some (.int .i64 (at_ l m).f0) := (blk_cell hB3 0).trans rfl
  have e1 : w3.cell? ⟨w.heap.size, 1, none⟩ = some (.int .i64 (at_ l m).f1.f0) := (blk_cell hB3 1).trans rfl
  have e2 : w3.cell? ⟨w.heap.size, 2, none⟩ = some (.int .i64 (at_ l m).f1.f1) := (blk_cell hB3 2).trans rfl
  have e3 : w3.cell? ⟨w.heap.size, 3, none⟩ = some (.int .i64 (at_ l m).f1.f2) := (blk_cell hB3 3).trans rfl
  clear hB3
  have hmok := hfine.ok _ (at_mem (l := l) (i := m) (by have := HM.out; omega))
  rcases Nat.lt_or_ge i m with c1 | c1
  · have c2 : (i : Int) < (m : Int) := by omega
    go_wp2_with fail
    clear e0 e1 e2 e3
    refine (lay_calls_any h3 i (by rw [List.length_take]; have := HM.out; omega) (by rw [List.length_take]; have := hfine.len; omega) (at_ l m) hmok (by have := hfine.len; have := HM.out; omega)).mono ?_
    rintro e w4 ⟨rfl, h4, k4⟩
    have hnone : upd (ix l) id none (at_ l m).f0 = none ∨ True := .inr trivial
    have hcl : (List.take m l).set i (at_ l m) = cutL l i m := by unfold cutL; rw [if_pos c1]
    rw [hcl] at h4
    have hsome : (upd (ix l) id none (at_ l m).f0).isSome = true := by
      unfold upd
      rw [if_neg (fun e => by have := hfine.inj (by have := HM.out; omega) (by have := HM.out; omega) (e.trans HI.out.symm); omega), ix_at hfine (by have := HM.out; omega)]
      rfl
    rw [if_pos hsome] at h4
    have h5 : HA w4 base a b (.slice (some ⟨g, 0, none⟩) m c) (cutL l i m) := HA.mk' h4 (hfine.cut HM.out hi) (by rw [cutL_length _ _ _ HM.out]) (fun x => by rw [← HI.out]; exact ix_cut_lt hfine HM.out c1 x)
    clear h4 h3 hsome hcl hnone
    go_wp2_with fail
    refine (up_calls h5 i (by rw [cutL_length _ _ _ HM.out]; exact c1)).mono ?_
    rintro e w5 ⟨rfl, h6, k6⟩
    go_wp2_with fail
    refine (down_calls h6 _ (by have := upL_le (cutL l i m) i; have := upL_length (cutL l i m) i; rw [cutL_length _ _ _ HM.out] at this; omega)).mono ?_
    rintro e w6 ⟨rfl, h7, k7⟩
    go_wp2
    go_ret
    (try rw [if_pos c1])
    refine ⟨rfl, _, h7, ?_, .inl rfl⟩
    exact ((hk3.trans k4 (.inl rfl)).trans k6 (.inl rfl)).trans k7 (.inl rfl)
  · obtain rfl : i = m := by omega
    go_wp2
    go_ret
    (try rw [if_neg (Nat.lt_irrefl _)])
    have hcl : List.take i l = cutL l i i := by unfold cutL; rw [if_neg (Nat.lt_irrefl _)]
    rw [hcl] at h3
    exact ⟨rfl, _, HA.mk' h3 (hfine.cut HM.out hi) (by rw [cutL_length _ _ _ HM.out]) (fun x => by rw [← HI.out]; exact ix_cut_last hfine HM.out x), hk3, .inl rfl⟩
end Go.Proofs.Ytejhkadalahcjaa.XHeap
