/- law10: does. -/
import Derived.Test.YtejhkadalahcjaaXLaw10a
namespace Go.Proofs.Ytejhkadalahcjaa.XHeap
open Go.RowKit Go.Proofs.YtejhkadalahcjaaW.PrintWords Go.Proofs.YtejhkadalahcjaaW.PrintLast Go.Proofs.YtejhkadalahcjaaW.PrintMore Go.Proofs.Ytejhkadalahcjaa.XBetter Go.Proofs.Ytejhkadalahcjaa.XMap Go.Proofs.Ytejhkadalahcjaa.PA
set_option linter.unusedVariables false
set_option linter.unusedSimpArgs false
theorem rput_length (l : List Slot) (s : Slot) : (rputL l s).length ≤ l.length + 1 := by
  unfold rputL
  split
  · rw [List.length_set]; omega
  · simp
theorem rdrop_length (l : List Slot) (id : Int) : (rdropL l id).length ≤ l.length := by
  unfold rdropL
  split
  · unfold rest
    rw [List.length_append, List.length_take, List.length_drop]; omega
  · exact Nat.le_refl _
theorem RefAt.far {w w' : World} {base ar : Nat} {vr : Value} {lr : List Slot} (r : RefAt w base ar vr lr) (k : Keep3 w w' ar ar vr) {i t : Nat} {cells : Array Value} (h1 : t ≠ 28) (h2 : t ≠ 37) (hi : w.heap[i]? = some (Obj.cells cells t (0, 0))) : w'.heap[i]? = some (Obj.cells cells t (0, 0)) := by
  refine (k.blk i (blk_lt hi) (fun e => ?_) (fun e => ?_) (fun e => ?_)).trans hi
  · subst e; rw [r.hd] at hi; simp at hi; exact h1 hi.2.symm
  · subst e; rw [r.hd] at hi; simp at hi; exact h1 hi.2.symm
  · obtain ⟨cs, hc⟩ := Kd.R_typed r.sl i e.symm
    rw [hc] at hi; simp at hi; exact h2 hi.2.symm
def Does (base a b ar n : Nat) (w0 w : World) (e : Ending) (w' : World) : Prop :=
  e = .returned (.bool true) ∧ (∃ l' lr', Both w' base a b ar l' lr' ∧ l'.length ≤ n + 1) ∧ Below base w0 w' ∧ w.heap.size ≤ w'.heap.size
def opObj (d : Int) (s : Slot) : Obj := .cells #[.int .i64 d, .int .i64 s.f0, .int .i64 s.f1.f0, .int .i64 s.f1.f1, .int .i64 s.f1.f2] 43
set_option maxRecDepth 100000 in
set_option maxHeartbeats 2000000 in
theorem does_put {w0 w : World} {base a b ar : Nat} {l lr : List Slot} (h : Both w base a b ar l lr) (hb : Below base w0 w) (hB : base ≤ w.heap.size) (s : Slot) (hs : i64ok s.f0) (hl : l.length < 4096) :
    Calls Try.prog 14 #[.pointer (some ⟨a, 0, none⟩), .pointer (some ⟨ar, 0, none⟩), .agg #[.int .i64 0, .int .i64 s.f0, .int .i64 s.f1.f0, .int .i64 s.f1.f1, .int .i64 s.f1.f2]] w (Does base a b ar l.length w0 w) := by
  have hW := below_alloc (Below.refl w.heap.size w) (opObj 0 s)
  have hO := heap_alloc_new w (opObj 0 s)
  replace h := h.of_below hW
  replace hb : Below base w0 (w.alloc (opObj 0 s)) := hb.trans (hW.mono hB)
  have hB' := hB
  replace hB := Nat.le_trans hB hW.size
  go_enter Try.func14, Try.ntmps14
  go_upto_region 1 with (fail)
  have hWz := hW.size
  clear hW
  unfold opObj at *
  generalize w.alloc (Obj.cells #[.int .i64 0, .int .i64 s.f0, .int .i64 s.f1.f0, .int .i64 s.f1.f1, .int .i64 s.f1.f2] 43) = W at h hb hO hB hWz ⊢
  have e0 : W.cell? ⟨w.heap.size, 0, none⟩ = some (.int .i64 0) := (blk_cell hO 0).trans rfl
  have e1 : W.cell? ⟨w.heap.size, 1, none⟩ = some (.int .i64 s.f0) := (blk_cell hO 1).trans rfl
  have e2 : W.cell? ⟨w.heap.size, 2, none⟩ = some (.int .i64 s.f1.f0) := (blk_cell hO 2).trans rfl
  have e3 : W.cell? ⟨w.heap.size, 3, none⟩ = some (.int .i64 s.f1.f1) := (blk_cell hO 3).trans rfl
  have e4 : W.cell? ⟨w.heap.size, 4, none⟩ = some (.int .i64 s.f1.f2) := (blk_cell hO 4).trans rfl
  have hsame := h.same
  have hlen := hsame.perm.length_eq
  have HLEN := Aside0.mk hlen
  clear hlen
  go_wp2_with fail
  go_region_held3 (fun w' => w'.cell? ⟨w.heap.size, 1, none⟩ = some (.int .i64 s.f0) ∧ w'.cell? ⟨w.heap.size, 2, none⟩ = some (.int .i64 s.f1.f0) ∧ w'.cell? ⟨w.heap.size, 3, none⟩ = some (.int .i64 s.f1.f1) ∧ w'.cell? ⟨w.heap.size, 4, none⟩ = some (.int .i64 s.f1.f2)) (go_keep) (first | (go_at_call 22; refine ((h.of_below (below_drew (Below.refl _ _))).put_calls (below_drew1 hb) hB s hs hl).mono ?_; rintro e w1 ⟨rfl, h1, ⟨vr, h2⟩, hb1, hz1, hf1⟩; have hO1 := hf1 _ _ _ (by decide) (by decide) hO; have ta1 : w1.cell? ⟨w.heap.size, 1, none⟩ = some (.int .i64 s.f0) := (blk_cell hO1 1).trans rfl; have ta2 : w1.cell? ⟨w.heap.size, 2, none⟩ = some (.int .i64 s.f1.f0) := (blk_cell hO1 2).trans rfl; have ta3 : w1.cell? ⟨w.heap.size, 3, none⟩ = some (.int .i64 s.f1.f1) := (blk_cell hO1 3).trans rfl; have ta4 : w1.cell? ⟨w.heap.size, 4, none⟩ = some (.int .i64 s.f1.f2) := (blk_cell hO1 4).trans rfl) | (go_at_call 23; refine (rput_calls h2 (by have := HLEN.out; omega) s).mono ?_; rintro e w2 ⟨rfl, vr2, h3, k3⟩; have hO2 := h2.far k3 (by decide) (by decide) hO1; have tb1 : w2.cell? ⟨w.heap.size, 1, none⟩ = some (.int .i64 s.f0) := (blk_cell hO2 1).trans rfl; have tb2 : w2.cell? ⟨w.heap.size, 2, none⟩ = some (.int .i64 s.f1.f0) := (blk_cell hO2 2).trans rfl; have tb3 : w2.cell? ⟨w.heap.size, 3, none⟩ = some (.int .i64 s.f1.f1) := (blk_cell hO2 3).trans rfl; have tb4 : w2.cell? ⟨w.heap.size, 4, none⟩ = some (.int .i64 s.f1.f2) := (blk_cell hO2 4).trans rfl))
  obtain ⟨v1, h1⟩ := h1
  have hS := hsame.put hs hl
  go_wp2
  go_ret
  refine ⟨?_, ⟨_, _, ⟨⟨_, h1.keep h2 k3⟩, ⟨_, h3⟩, hS⟩, ?_⟩, h2.step k3 hb1 (Nat.le_trans hB hz1), ?_⟩
  · rw [putB_same hsame]; simp
  · have h5 := hS.perm.length_eq
    have h6 := rput_length lr s
    have h7 := HLEN.out
    omega
  · exact Nat.le_trans hWz (Nat.le_trans hz1 k3.size)
set_option maxRecDepth 100000 in
set_option maxHeartbeats 2000000 in
theorem does_drop {w0 w : World} {base a b ar : Nat} {l lr : List Slot} (h : Both w base a b ar l lr) (hb : Below base w0 w) (hB : base ≤ w.heap.size) (s : Slot) (hs : i64ok s.f0) (hl : l.length < 4096) :
    Calls Try.prog 14 #[.pointer (some ⟨a, 0, none⟩), .pointer (some ⟨ar, 0, none⟩), .agg #[.int .i64 1, .int .i64 s.f0, .int .i64 s.f1.f0, .int .i64 s.f1.f1, .int .i64 s.f1.f2]] w (Does base a b ar l.length w0 w) := by
  have hW := below_alloc (Below.refl w.heap.size w) (opObj 1 s)
  have hO := heap_alloc_new w (opObj 1 s)
  replace h := h.of_below hW
  replace hb : Below base w0 (w.alloc (opObj 1 s)) := hb.trans (hW.mono hB)
  have hB' := hB
  replace hB := Nat.le_trans hB hW.size
  go_enter Try.func14, Try.ntmps14
  go_upto_region 1 with (fail)
  have hWz := hW.size
  clear hW
  unfold opObj at *
  generalize w.alloc (Obj.cells #[.int .i64 1, .int .i64 s.f0, .int .i64 s.f1.f0, .int .i64 s.f1.f1, .int .i64 s.f1.f2] 43) = W at h hb hO hB hWz ⊢
  have e0 : W.cell? ⟨w.heap.size, 0, none⟩ = some (.int .i64 1) := (blk_cell hO 0).trans rfl
  have e1 : W.cell? ⟨w.heap.size, 1, none⟩ = some (.int .i64 s.f0) := (blk_cell hO 1).trans rfl
  have hsame := h.same
  have hlen := hsame.perm.length_eq
  have HLEN := Aside0.mk hlen
  clear hlen
  go_wp2_with fail
  go_region_held3 (fun w' => w'.cell? ⟨w.heap.size, 1, none⟩ = some (.int .i64 s.f0)) (go_keep) (first | (go_at_call 21; refine ((h.of_below (below_drew (Below.refl _ _))).drop_calls (below_drew1 hb) hB s.f0 hs).mono ?_; rintro e w1 ⟨rfl, h1, ⟨vr, h2⟩, hb1, hz1, hf1⟩; have hO1 := hf1 _ _ _ (by decide) (by decide) hO; have ta1 : w1.cell? ⟨w.heap.size, 1, none⟩ = some (.int .i64 s.f0) := (blk_cell hO1 1).trans rfl) | (go_at_call 24; refine (rdrop_calls h2 (by have := HLEN.out; omega) s.f0).mono ?_; rintro e w2 ⟨rfl, vr2, h3, k3⟩; have hO2 := h2.far k3 (by decide) (by decide) hO1; have tb1 : w2.cell? ⟨w.heap.size, 1, none⟩ = some (.int .i64 s.f0) := (blk_cell hO2 1).trans rfl))
  obtain ⟨v1, h1⟩ := h1
  have hS := hsame.drop s.f0
  go_wp2
  go_ret
  refine ⟨?_, ⟨_, _, ⟨⟨_, h1.keep h2 k3⟩, ⟨_, h3⟩, hS⟩, ?_⟩, h2.step k3 hb1 (Nat.le_trans hB hz1), ?_⟩
  · rw [dropB_same hsame]; simp
  · have h5 := hS.perm.length_eq
    have h6 := rdrop_length lr s.f0
    have h7 := HLEN.out
    omega
  · exact Nat.le_trans hWz (Nat.le_trans hz1 k3.size)
set_option maxRecDepth 100000 in
set_option maxHeartbeats 2000000 in
theorem does_other {w0 w : World} {base a b ar : Nat} {l lr : List Slot} (h : Both w base a b ar l lr) (hb : Below base w0 w) (hB : base ≤ w.heap.size) (s : Slot) (hs : i64ok s.f0) (hl : l.length < 4096) (d : Int) (d0 : d ≠ 0) (d1 : d ≠ 1) (d2 : d ≠ 2) (d3 : d ≠ 3) :
    Calls Try.prog 14 #[.pointer (some ⟨a, 0, none⟩), .pointer (some ⟨ar, 0, none⟩), .agg #[.int .i64 d, .int .i64 s.f0, .int .i64 s.f1.f0, .int .i64 s.f1.f1, .int .i64 s.f1.f2]] w (Does base a b ar l.length w0 w) := by
  have hW := below_alloc (Below.refl w.heap.size w) (opObj d s)
  have hO := heap_alloc_new w (opObj d s)
  replace h := h.of_below hW
  replace hb : Below base w0 (w.alloc (opObj d s)) := hb.trans (hW.mono hB)
  have hB' := hB
  replace hB := Nat.le_trans hB hW.size
  go_enter Try.func14, Try.ntmps14
  go_upto_region 1 with (fail)
  have hWz := hW.size
  clear hW
  unfold opObj at *
  generalize w.alloc (Obj.cells #[.int .i64 d, .int .i64 s.f0, .int .i64 s.f1.f0, .int .i64 s.f1.f1, .int .i64 s.f1.f2] 43) = W at h hb hO hB hWz ⊢
  have e0 : W.cell? ⟨w.heap.size, 0, none⟩ = some (.int .i64 d) := (blk_cell hO 0).trans rfl
  have e1 : W.cell? ⟨w.heap.size, 1, none⟩ = some (.int .i64 s.f0) := (blk_cell hO 1).trans rfl
  have hsame := h.same
  have hlen := hsame.perm.length_eq
  have HLEN := Aside0.mk hlen
  clear hlen
  have t0 : (d == 0) = false := by simpa using d0
  have t1 : (d == 1) = false := by simpa using d1
  have t2 : (d == 2) = false := by simpa using d2
  have t3 : (d == 3) = false := by simpa using d3
  go_wp2
  go_ret
  exact ⟨rfl, ⟨_, _, h, by omega⟩, hb, hWz⟩
theorem get_none' {w : World} {base a b : Nat} {v : Value} {l : List Slot} (h : HA w base a b v l) (id : Int) (hid : i64ok id) : Calls Try.prog 20 #[.pointer (some ⟨a, 0, none⟩), .int .i64 id] w fun e w' => (∃ r : S30, ∃ q : Bool, e = .returned (.tuple #[.agg #[.int .i64 r.f0, .int .i64 r.f1, .int .i64 r.f2], .bool q]) ∧ (match ix l id with | some i => (back (at_ l i.toNat)).f1 = r ∧ q = true | none => r = z30 ∧ q = false)) ∧ Below w.heap.size w w' := by
  cases hix : ix l id with
  | none =>
    refine (get_none h id hid hix).mono ?_
    rintro e w' ⟨rfl, hb⟩
    exact ⟨⟨z30, false, rfl, rfl, rfl⟩, hb⟩
  | some i =>
    obtain ⟨j, rfl, hj, rfl⟩ := ix_some hix
    refine (get_some h j hj).mono ?_
    rintro e w' ⟨rfl, hb⟩
    exact ⟨⟨(back (at_ l j)).f1, true, rfl, by simp, rfl⟩, hb⟩
set_option maxRecDepth 100000 in
set_option maxHeartbeats 2000000 in
theorem does_get {w0 w : World} {base a b ar : Nat} {l lr : List Slot} (h : Both w base a b ar l lr) (hb : Below base w0 w) (hB : base ≤ w.heap.size) (s : Slot) (hs : i64ok s.f0) (hl : l.length < 4096) :
    Calls Try.prog 14 #[.pointer (some ⟨a, 0, none⟩), .pointer (some ⟨ar, 0, none⟩), .agg #[.int .i64 2, .int .i64 s.f0, .int .i64 s.f1.f0, .int .i64 s.f1.f1, .int .i64 s.f1.f2]] w (Does base a b ar l.length w0 w) := by
  have hW := below_alloc (Below.refl w.heap.size w) (opObj 2 s)
  have hO := heap_alloc_new w (opObj 2 s)
  replace h := h.of_below hW
  replace hb : Below base w0 (w.alloc (opObj 2 s)) := hb.trans (hW.mono hB)
  have hB' := hB
  replace hB := Nat.le_trans hB hW.size
  go_enter Try.func14, Try.ntmps14
  go_upto_region 1 with (fail)
  have hWz := hW.size
  clear hW
  unfold opObj at *
  generalize w.alloc (Obj.cells #[.int .i64 2, .int .i64 s.f0, .int .i64 s.f1.f0, .int .i64 s.f1.f1, .int .i64 s.f1.f2] 43) = W at h hb hO hB hWz ⊢
  have e0 : W.cell? ⟨w.heap.size, 0, none⟩ = some (.int .i64 2) := (blk_cell hO 0).trans rfl
  have e1 : W.cell? ⟨w.heap.size, 1, none⟩ = some (.int .i64 s.f0) := (blk_cell hO 1).trans rfl
  have hsame := h.same
  have hlen := hsame.perm.length_eq
  have HLEN := Aside0.mk hlen
  clear hlen
  obtain ⟨⟨v, h1⟩, ⟨vr, h2⟩, _⟩ := h
  go_wp2_with fail
  refine (get_none' h1 s.f0 hs).mono ?_
  rintro e w1 ⟨⟨r, q, rfl, hr⟩, b1⟩
  go_upto_region 8 with (fail)
  have b2 := below_alloc b1 (Obj.cells #[.int .i64 r.f0, .int .i64 r.f1, .int .i64 r.f2] 31)
  have T1 := heap_alloc_new w1 (Obj.cells #[.int .i64 r.f0, .int .i64 r.f1, .int .i64 r.f2] 31)
  generalize w1.alloc (Obj.cells #[.int .i64 r.f0, .int .i64 r.f1, .int .i64 r.f2] 31) = w2 at b2 T1 ⊢
  generalize w1.heap.size = p1 at T1 ⊢
  have hO2 := blk_below hO b2
  clear e0 e1 b1
  have e1 : w2.cell? ⟨w.heap.size, 1, none⟩ = some (.int .i64 s.f0) := (blk_cell hO2 1).trans rfl
  go_wp2_with fail
  refine (rget_calls (h2.of_below b2) (by have := HLEN.out; omega) s.f0).mono ?_
  rintro e w3 ⟨⟨r', q', rfl, hr'⟩, b3⟩
  have hrr : r = r' ∧ q = q' := by
    cases hi : ix l s.f0 with
    | none =>
      rw [hi] at hr
      rw [(hsame.ix_none _).1 hi] at hr'
      exact ⟨hr.1.trans hr'.1.symm, hr.2.trans hr'.2.symm⟩
    | some i =>
      cases hj : ix lr s.f0 with
      | none => rw [(hsame.ix_none _).2 hj] at hi; cases hi
      | some j =>
        rw [hi] at hr
        rw [hj] at hr'
        have := hsame.same_at hi hj
        simp only at hr hr'
        exact ⟨by rw [← hr.1, ← hr'.1, this], hr.2.trans hr'.2.symm⟩
  obtain ⟨rfl, rfl⟩ := hrr
  clear hr hr' e1
  go_upto_region 9 with (fail)
  have b4 := below_alloc b3 (Obj.cells #[.int .i64 r.f0, .int .i64 r.f1, .int .i64 r.f2] 30)
  have T2 := heap_alloc_new w3 (Obj.cells #[.int .i64 r.f0, .int .i64 r.f1, .int .i64 r.f2] 30)
  generalize w3.alloc (Obj.cells #[.int .i64 r.f0, .int .i64 r.f1, .int .i64 r.f2] 30) = w4 at b4 T2 ⊢
  generalize w3.heap.size = p2 at T2 ⊢
  replace T1 := blk_below T1 b4
  have t0 : w4.cell? ⟨p1, 0, none⟩ = some (.int .i64 r.f0) := (blk_cell T1 0).trans rfl
  have t1 : w4.cell? ⟨p1, 1, none⟩ = some (.int .i64 r.f1) := (blk_cell T1 1).trans rfl
  have t2 : w4.cell? ⟨p1, 2, none⟩ = some (.int .i64 r.f2) := (blk_cell T1 2).trans rfl
  have u0 : w4.cell? ⟨p2, 0, none⟩ = some (.int .i64 r.f0) := (blk_cell T2 0).trans rfl
  have u1 : w4.cell? ⟨p2, 1, none⟩ = some (.int .i64 r.f1) := (blk_cell T2 1).trans rfl
  have u2 : w4.cell? ⟨p2, 2, none⟩ = some (.int .i64 r.f2) := (blk_cell T2 2).trans rfl
  have hbb := below_step b2 b4
  clear b3 b4 T1 T2
  go_wp2_with (first | (rw [eqA]; go_simp))
  go_ret
  exact ⟨rfl, ⟨_, _, ⟨⟨_, h1.of_below hbb⟩, ⟨_, h2.of_below hbb⟩, hsame⟩, by omega⟩, hb.trans (hbb.mono hB), Nat.le_trans hWz hbb.size⟩
end Go.Proofs.Ytejhkadalahcjaa.XHeap
