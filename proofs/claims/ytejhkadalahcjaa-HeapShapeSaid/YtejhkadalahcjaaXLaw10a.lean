/- law10: same, does. -/
import Derived.Test.YtejhkadalahcjaaXHeapPure
import Derived.Test.YtejhkadalahcjaaXLive10
namespace Go.Proofs.Ytejhkadalahcjaa.XHeap
open Go.RowKit Go.Proofs.YtejhkadalahcjaaW.PrintWords Go.Proofs.YtejhkadalahcjaaW.PrintLast Go.Proofs.YtejhkadalahcjaaW.PrintMore Go.Proofs.Ytejhkadalahcjaa.XBetter Go.Proofs.Ytejhkadalahcjaa.XMap Go.Proofs.Ytejhkadalahcjaa.PA
set_option linter.unusedVariables false
set_option linter.unusedSimpArgs false
theorem R_stepT {α : Type} {d : Kd α} (hE : d.E = []) {w w' : World} {e base : Nat} {v : Value} {xs : List α} (h : d.R e w base (fun _ => True) v xs) (hm : ∀ k, k < w.heap.size → (∃ cells, w.heap[k]? = some (.cells cells e (0, 0))) → w'.heap[k]? = w.heap[k]?) : d.R e w' base (fun _ => True) v xs := by
  refine Kd.R_mono (Kd.R_step (Kd.R_bound h) (fun k hk hlt => ?_)) (fun _ _ => trivial)
  obtain ⟨_, _, _, q, hq, hc⟩ := hk
  rw [hE] at hq
  simp at hq
  subst hq
  exact hm k hlt hc
section
variable {w w' : World} {base a b ar : Nat} {v vr : Value} {l lr : List Slot}
theorem RefAt.keep (r : RefAt w base ar vr lr) (h : HA w base a b v l) (k : Keep3 w w' a b v) : RefAt w' base ar vr lr := by
  obtain ⟨es, ck, hb⟩ := h.mem.mp.block
  have hm : ∀ (i t : Nat) (cells : Array Value), t ≠ 62 → t ≠ 33 → w.heap[i]? = some (Obj.cells cells t (0, 0)) → w'.heap[i]? = w.heap[i]? := fun i t cells h1 h2 hi => by
    refine k.blk i (blk_lt hi) (fun e => ?_) (fun e => ?_) (fun e => ?_)
    · subst e; rw [h.mem.hd] at hi; simp at hi; exact h1 hi.2.symm
    · subst e; rw [hb] at hi; simp at hi
    · obtain ⟨cs, hc⟩ := Kd.R_typed h.mem.sl i e.symm
      rw [hc] at hi; simp at hi; exact h2 hi.2.symm
  exact ⟨(hm ar _ _ (by decide) (by decide) r.hd).trans r.hd, R_stepT rfl r.sl (fun i hi ⟨cells, hc⟩ => hm i _ cells (by decide) (by decide) hc), r.ha⟩
theorem HA.keep (h : HA w base a b v l) (r : RefAt w base ar vr lr) (k : Keep3 w w' ar ar vr) : HA w' base a b v l := by
  obtain ⟨es, ck, hb⟩ := h.mem.mp.block
  have hm : ∀ (i t : Nat) (cells : Array Value), t ≠ 28 → t ≠ 37 → w.heap[i]? = some (Obj.cells cells t (0, 0)) → w'.heap[i]? = w.heap[i]? := fun i t cells h1 h2 hi => by
    refine k.blk i (blk_lt hi) (fun e => ?_) (fun e => ?_) (fun e => ?_)
    · subst e; rw [r.hd] at hi; simp at hi; exact h1 hi.2.symm
    · subst e; rw [r.hd] at hi; simp at hi; exact h1 hi.2.symm
    · obtain ⟨cs, hc⟩ := Kd.R_typed r.sl i e.symm
      rw [hc] at hi; simp at hi; exact h2 hi.2.symm
  refine ⟨⟨(hm a _ _ (by decide) (by decide) h.mem.hd).trans h.mem.hd, R_stepT rfl h.mem.sl (fun i hi ⟨cells, hc⟩ => hm i _ cells (by decide) (by decide) hc), h.mem.mp.kept ?_, h.mem.ha, h.mem.hb⟩, h.fine⟩
  refine k.blk b h.mem.mp.lt (fun e => ?_) (fun e => ?_) (fun e => ?_)
  · subst e; rw [r.hd] at hb; simp at hb
  · subst e; rw [r.hd] at hb; simp at hb
  · obtain ⟨cs, hc⟩ := Kd.R_typed r.sl b e.symm
    rw [hb] at hc; simp at hc
theorem RefAt.step {w0 : World} (r : RefAt w base ar vr lr) (k : Keep3 w w' ar ar vr) (hb : Below base w0 w) (hB : base ≤ w.heap.size) : Below base w0 w' :=
  k.below hb hB r.ha r.ha (fun g hg => Kd.R_base r.sl g hg)
end
theorem rput_calls {w : World} {base a : Nat} {v : Value} {l : List Slot} (h : RefAt w base a v l) (hl : l.length < 4096) (s : Slot) :
    Calls Try.prog 23 #[.pointer (some ⟨a, 0, none⟩), .int .i64 s.f0, .agg #[.int .i64 s.f1.f0, .int .i64 s.f1.f1, .int .i64 s.f1.f2]] w fun e w' => e = .returned (.bool (putB l s)) ∧ ∃ v', RefAt w' base a v' (rputL l s) ∧ Keep3 w w' a a v := by
  unfold putB rputL
  cases hix : ix l s.f0 with
  | none =>
    refine (rput_new h hl s hix).mono ?_
    rintro e w' ⟨rfl, v', h1, h2, _⟩
    exact ⟨rfl, v', h1, h2⟩
  | some i =>
    obtain ⟨j, rfl, hj, he⟩ := ix_some hix
    refine (rput_had h (Nat.le_of_lt hl) s j hj hix).mono ?_
    rintro e w' ⟨rfl, h1, h2⟩
    exact ⟨rfl, v, by simpa using h1, h2⟩
theorem rdrop_calls {w : World} {base a : Nat} {v : Value} {l : List Slot} (h : RefAt w base a v l) (hl : l.length ≤ 4096) (id : Int) :
    Calls Try.prog 24 #[.pointer (some ⟨a, 0, none⟩), .int .i64 id] w fun e w' => e = .returned (.bool (dropB l id)) ∧ ∃ v', RefAt w' base a v' (rdropL l id) ∧ Keep3 w w' a a v := by
  unfold dropB rdropL
  cases hix : ix l id with
  | none =>
    refine (rdrop_not h hl id hix).mono ?_
    rintro e w' ⟨rfl, rfl⟩
    exact ⟨rfl, v, h, Keep3.refl _ _ _ _⟩
  | some i =>
    obtain ⟨j, rfl, hj, he⟩ := ix_some hix
    refine (rdrop_had h hl id j hj hix).mono ?_
    rintro e w' ⟨rfl, v', h1, h2, _⟩
    exact ⟨rfl, v', by simpa [rest] using h1, h2⟩
theorem eqA (x0 x1 x2 y0 y1 y2 : Int) (w : World) : (Op.equalIn 10000 30 (.agg #[.int .i64 x0, .int .i64 x1, .int .i64 x2]) (.agg #[.int .i64 y0, .int .i64 y1, .int .i64 y2])).run Try.prog w = .ok (x0 == y0 && (x1 == y1 && x2 == y2)) w := by
  have hp : ∀ (xs : Array Value) (j : Nat) (v : Value), xs[j]? = some v → (part 3 xs j).run Try.prog w = .ok v w := fun xs j v h => run_part_plain w (by kernel_rfl) h
  have hc : Try.prog.cellsOf 3 = 1 := by kernel_rfl
  have he : ∀ a b : Int, (Op.equalIn 9999 3 (.int .i64 a) (.int .i64 b)).run Try.prog w = .ok (a == b) w := fun a b => run_equalIn_int w 9998 _ _ _ a b Try.underlying3
  obtain ⟨i, hi⟩ : ∃ i, Try.prog.info? 3 = some i := ⟨_, rfl⟩
  rw [show (10000 : Nat) = 9999 + 1 from rfl, run_equalIn_array w 9999 _ _ Try.underlying30 hi, hc, show List.range 3 = [0, 1, 2] from rfl]
  generalize hX : (#[.int .i64 x0, .int .i64 x1, .int .i64 x2] : Array Value) = X
  generalize hY : (#[.int .i64 y0, .int .i64 y1, .int .i64 y2] : Array Value) = Y
  have p0 := hp X 0 (.int .i64 x0) (by rw [← hX]; rfl)
  have p1 := hp X 1 (.int .i64 x1) (by rw [← hX]; rfl)
  have p2 := hp X 2 (.int .i64 x2) (by rw [← hX]; rfl)
  have q0 := hp Y 0 (.int .i64 y0) (by rw [← hY]; rfl)
  have q1 := hp Y 1 (.int .i64 y1) (by rw [← hY]; rfl)
  have q2 := hp Y 2 (.int .i64 y2) (by rw [← hY]; rfl)
  clear hX hY hp
  simp only [Op.eqItems, Sem.run_bind, Nat.mul_one, p0, q0, Result.andThen_ok, he]
  by_cases c0 : x0 = y0 <;> by_cases c1 : x1 = y1 <;> by_cases c2 : x2 = y2 <;> simp [c0, c1, c2, p1, p2, q1, q2, he, Result.andThen_ok]
theorem same_calls (s : Slot) (w : World) : Calls Try.prog 13 #[.agg #[.int .i64 s.f0, .int .i64 s.f1.f0, .int .i64 s.f1.f1, .int .i64 s.f1.f2], .agg #[.int .i64 s.f0, .int .i64 s.f1.f0, .int .i64 s.f1.f1, .int .i64 s.f1.f2]] w fun e w' => e = .returned (.bool true) ∧ Below w.heap.size w w' := by
  go_enter Try.func13, Try.ntmps13
  go_wp2_with (first | (rw [eqA]; go_simp))
  go_ret
  exact ⟨rfl, below_alloc (below_alloc (Below.refl _ _) _) _⟩
/-- The program's heap and the document's, side by side. -/
structure Both (w : World) (base a b ar : Nat) (l lr : List Slot) : Prop where
  p : ∃ v, HA w base a b v l
  r : ∃ vr, RefAt w base ar vr lr
  same : Same l lr
theorem Both.of_below {w w' : World} {base a b ar : Nat} {l lr : List Slot} (h : Both w base a b ar l lr) (k : Below w.heap.size w w') : Both w' base a b ar l lr := by
  obtain ⟨⟨v, h1⟩, ⟨vr, h2⟩, h3⟩ := h
  exact ⟨⟨v, h1.of_below k⟩, ⟨vr, h2.of_below k⟩, h3⟩
theorem Both.put_calls {w0 w : World} {base a b ar : Nat} {l lr : List Slot} (h : Both w base a b ar l lr) (hb : Below base w0 w) (hB : base ≤ w.heap.size) (s : Slot) (hs : i64ok s.f0) (hl : l.length < 4096) :
    Calls Try.prog 22 #[.pointer (some ⟨a, 0, none⟩), .int .i64 s.f0, .agg #[.int .i64 s.f1.f0, .int .i64 s.f1.f1, .int .i64 s.f1.f2]] w fun e w1 => e = .returned (.bool (putB l s)) ∧ (∃ v, HA w1 base a b v (putL l s)) ∧ (∃ vr, RefAt w1 base ar vr lr) ∧ Below base w0 w1 ∧ w.heap.size ≤ w1.heap.size ∧ (∀ (k : Nat) (cells : Array Value) (t : Nat), t ≠ 62 → t ≠ 33 → w.heap[k]? = some (Obj.cells cells t (0, 0)) → w1.heap[k]? = some (Obj.cells cells t (0, 0))) := by
  obtain ⟨⟨v, h1⟩, ⟨vr, h2⟩, h3⟩ := h
  refine (XHeap.put_calls h1 s hs hl).mono ?_
  rintro e w1 ⟨rfl, v', h4, k4, _⟩
  obtain ⟨es, ck, hm⟩ := h1.mem.mp.block
  refine ⟨rfl, ⟨v', h4⟩, ⟨vr, h2.keep h1 k4⟩, h1.step k4 hb hB, k4.size, fun k cells t t1 t2 hk => ?_⟩
  refine (k4.blk k (blk_lt hk) (fun e => ?_) (fun e => ?_) (fun e => ?_)).trans hk
  · subst e; rw [h1.mem.hd] at hk; simp at hk; exact t1 hk.2.symm
  · subst e; rw [hm] at hk; simp at hk
  · obtain ⟨cs, hc⟩ := Kd.R_typed h1.mem.sl k e.symm
    rw [hc] at hk; simp at hk; exact t2 hk.2.symm
theorem Both.drop_calls {w0 w : World} {base a b ar : Nat} {l lr : List Slot} (h : Both w base a b ar l lr) (hb : Below base w0 w) (hB : base ≤ w.heap.size) (id : Int) (hid : i64ok id) :
    Calls Try.prog 21 #[.pointer (some ⟨a, 0, none⟩), .int .i64 id] w fun e w1 => e = .returned (.bool (dropB l id)) ∧ (∃ v, HA w1 base a b v (dropL l id)) ∧ (∃ vr, RefAt w1 base ar vr lr) ∧ Below base w0 w1 ∧ w.heap.size ≤ w1.heap.size ∧ (∀ (k : Nat) (cells : Array Value) (t : Nat), t ≠ 62 → t ≠ 33 → w.heap[k]? = some (Obj.cells cells t (0, 0)) → w1.heap[k]? = some (Obj.cells cells t (0, 0))) := by
  obtain ⟨⟨v, h1⟩, ⟨vr, h2⟩, h3⟩ := h
  refine (XHeap.drop_calls h1 id hid).mono ?_
  rintro e w1 ⟨rfl, v', h4, k4, _⟩
  obtain ⟨es, ck, hm⟩ := h1.mem.mp.block
  refine ⟨rfl, ⟨v', h4⟩, ⟨vr, h2.keep h1 k4⟩, h1.step k4 hb hB, k4.size, fun k cells t t1 t2 hk => ?_⟩
  refine (k4.blk k (blk_lt hk) (fun e => ?_) (fun e => ?_) (fun e => ?_)).trans hk
  · subst e; rw [h1.mem.hd] at hk; simp at hk; exact t1 hk.2.symm
  · subst e; rw [hm] at hk; simp at hk
  · obtain ⟨cs, hc⟩ := Kd.R_typed h1.mem.sl k e.symm
    rw [hc] at hk; simp at hk; exact t2 hk.2.symm
theorem putB_same {l lr : List Slot} (h : Same l lr) (s : Slot) : putB lr s = putB l s := by
  unfold putB
  cases h1 : ix l s.f0 with
  | none => rw [(h.ix_none _).1 h1]
  | some i =>
    cases h2 : ix lr s.f0 with
    | none => rw [(h.ix_none _).2 h2] at h1; cases h1
    | some j => rfl
theorem dropB_same {l lr : List Slot} (h : Same l lr) (id : Int) : dropB lr id = dropB l id := by
  unfold dropB
  cases h1 : ix l id with
  | none => rw [(h.ix_none _).1 h1]
  | some i =>
    cases h2 : ix lr id with
    | none => rw [(h.ix_none _).2 h2] at h1; cases h1
    | some j => rfl
end Go.Proofs.Ytejhkadalahcjaa.XHeap
