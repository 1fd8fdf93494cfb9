-- Several texts in one, without what the law does not use (wip/tools/bundle.py).
import Derived.Test.YtmigglldahkngaaBLinkTold0

section
/- All that a walk knows of its world, as one fact: the boxes that it has made (where, and what they hold), the slice that it alone may write, and the slices that it only reads. -/
namespace Go.Proofs.Ytmigglldahkngaa.XSt
set_option linter.unusedVariables false
set_option linter.unusedSimpArgs false
open Go.RowKit Go.Proofs.YtmigglldahkngaaW.PrintWords Go.Proofs.YtmigglldahkngaaW.PrintLast Go.Proofs.YtmigglldahkngaaW.PrintMore Go.Proofs.Ytmigglldahkngaa.XMem
/-- Something that is known of a world, and of no block that is not allowed. -/
structure Ft where
 P : World → (Nat → Prop) → Prop
 step : ∀ {w w1 : World} {ok : Nat → Prop}, P w ok → (∀ k, ok k → k < w.heap.size → w1.heap[k]? = w.heap[k]?) → P w1 ok
 mono : ∀ {w : World} {ok ok' : Nat → Prop}, P w ok → (∀ k, ok k → ok' k) → P w ok'
 bound : ∀ {w : World} {ok : Nat → Prop}, P w ok → P w (fun k => ok k ∧ k < w.heap.size)
/-- A slice that is only read. -/
def V {α : Type} (d : Kd α) (v : Value) (l : List α) : Ft := ⟨fun w ok => Kd.V d 0 w 0 ok v l, fun h hm => Kd.V_step h hm, fun h hm => Kd.V_mono h hm, fun h => Kd.V_bound h⟩
/-- Nothing. -/
def tt : Ft := ⟨fun _ _ => True, fun _ _ => trivial, fun _ _ => trivial, fun _ => trivial⟩
abbrev nil : Value := .slice none 0 0
/-- No box. -/
def Out (L : List (Nat × Obj)) (k : Nat) : Prop := ∀ x ∈ L, k ≠ x.1
/-- What the caller allows, or new; and no box. -/
def Fp (ok : Nat → Prop) (w0 : World) (L : List (Nat × Obj)) (k : Nat) : Prop := (ok k ∨ w0.heap.size ≤ k) ∧ Out L k
/-- And not one's own slice. -/
def Ap (ok : Nat → Prop) (w0 : World) (L : List (Nat × Obj)) (u : Value) (k : Nat) : Prop := Fp ok w0 L k ∧ some k ≠ u.ownBlock
structure Kn (ok : Nat → Prop) (w0 : World) (L : List (Nat × Obj)) (u : Value) (U : Ft) (I : List Ft) (w : World) : Prop where
 bel : Below w0.heap.size w0 w
 mem : ∀ x ∈ L, w.heap[x.1]? = some x.2
 base : ∀ x ∈ L, w0.heap.size ≤ x.1
 nod : L.Pairwise (fun a b => a.1 ≠ b.1)
 own : U.P w (Fp ok w0 L)
 oob : ∀ k, u.ownBlock = some k → Out L k ∧ k < w.heap.size ∧ w0.heap.size ≤ k
 ims : ∀ f ∈ I, f.P w (Ap ok w0 L u)
variable {ok : Nat → Prop} {w0 w w1 : World} {L : List (Nat × Obj)} {u : Value} {U : Ft} {I : List Ft}
theorem Kn.lt (S : Kn ok w0 L u U I w) {x : Nat × Obj} (hx : x ∈ L) : x.1 < w.heap.size := blk_lt (S.mem x hx)
theorem Kn.start (ok : Nat → Prop) (w : World) : Kn ok w [] nil tt [] w := ⟨Below.refl _ _, (fun x h => nomatch h), (fun x h => nomatch h), List.Pairwise.nil, trivial, (fun k h => by simp [Value.ownBlock] at h), (fun f h => nomatch h)⟩
theorem Out.nil (k : Nat) : Out [] k := fun x h => nomatch h
theorem Ap.nil {ok : Nat → Prop} {w0 : World} (k : Nat) (h : ok k) : Ap ok w0 [] nil k := ⟨⟨.inl h, Out.nil k⟩, by simp [Value.ownBlock]⟩
/-- A slice that comes in. -/
theorem Kn.arg (S : Kn ok w0 [] nil tt I w) {α : Type} {d : Kd α} {v : Value} {l : List α} {e : Nat} (h : Kd.V d e w 0 ok v l) : Kn ok w0 [] nil tt (V d v l :: I) w :=
 ⟨S.bel, S.mem, S.base, S.nod, S.own, S.oob, fun f hf => by
  rcases List.mem_cons.1 hf with rfl | hf
  ·exact Kd.V_mono (e := e) h (fun k hk => Ap.nil k hk)
  ·exact S.ims f hf⟩
theorem Kn.below (S : Kn ok w0 L u U I w) (hb : Below w.heap.size w w1) : Kn ok w0 L u U I w1 :=
 ⟨below_step S.bel hb, fun x hx => blk_below (S.mem x hx) hb, S.base, S.nod, U.step S.own (fun k _ hk => hb.block k hk), fun k hk => ⟨(S.oob k hk).1, Nat.lt_of_lt_of_le (S.oob k hk).2.1 hb.size, (S.oob k hk).2.2⟩, fun f hf => f.step (S.ims f hf) (fun k _ hk => hb.block k hk)⟩
theorem Kn.drew (S : Kn ok w0 L u U I w) : Kn ok w0 L u U I w.drew := S.below (below_drew (Below.refl _ _))
/-- A call that makes memory, and tells a slice. -/
theorem Kn.call (S : Kn ok w0 L u U I w) (hb : Below w.heap.size w w1) {f : Ft} (h : f.P w1 (fun k => Ap ok w0 L u k ∨ w.heap.size ≤ k)) : Kn ok w0 L u U (f :: I) w1 :=
 ⟨(S.below hb).bel, (S.below hb).mem, S.base, S.nod, (S.below hb).own, (S.below hb).oob, fun g hg => by
  rcases List.mem_cons.1 hg with rfl | hg
  ·refine g.mono h (fun k hk => ?_)
   rcases hk with hk | hk
   ·exact hk
   ·refine ⟨⟨.inr (Nat.le_trans S.bel.size hk), fun x hx => ?_⟩, fun e => ?_⟩
    ·have := S.lt hx
     omega
    ·have := (S.oob k e.symm).2.1
     omega
  ·exact (S.below hb).ims g hg⟩
theorem Kn.add (S : Kn ok w0 L u U I w) {f : Ft} (h : f.P w (Ap ok w0 L u)) : Kn ok w0 L u U (f :: I) w :=
 ⟨S.bel, S.mem, S.base, S.nod, S.own, S.oob, fun g hg => by
  rcases List.mem_cons.1 hg with rfl | hg
  ·exact h
  ·exact S.ims g hg⟩
/-- What is known of a slice. -/
theorem Kn.ft (S : Kn ok w0 L u U I w) (i : Nat) {f : Ft} (hi : I[i]? = some f) : f.P w (Ap ok w0 L u) := S.ims f (List.mem_of_getElem? hi)
/-- A new box. -/
theorem Kn.new (S : Kn ok w0 L u U I w) {o : Obj} (hg : w.alloc o = w1) : Kn ok w0 ((w.heap.size, o) :: L) u U I w1 := by
 have hb : Below w.heap.size w w1 := al_below hg
 have S1 := S.below hb
 refine ⟨S1.bel, ?_, ?_, ?_, ?_, ?_, ?_⟩
 ·intro x hx
  rcases List.mem_cons.1 hx with rfl | hx
  ·exact al_new hg
  ·exact S1.mem x hx
 ·intro x hx
  rcases List.mem_cons.1 hx with rfl | hx
  ·exact S.bel.size
  ·exact S.base x hx
 ·refine List.pairwise_cons.2 ⟨fun x hx => ?_, S.nod⟩
  have := S.lt hx
  show w.heap.size ≠ x.1
  omega
 ·refine U.mono (U.step (U.bound S.own) (fun k _ hk => hb.block k hk)) (fun k hk => ⟨hk.1.1, fun x hx => ?_⟩)
  rcases List.mem_cons.1 hx with rfl | hx
  ·exact Nat.ne_of_lt hk.2
  ·exact hk.1.2 x hx
 ·intro k hk
  obtain ⟨h1, h2, h3⟩ := S.oob k hk
  refine ⟨fun x hx => ?_, Nat.lt_of_lt_of_le h2 hb.size, h3⟩
  rcases List.mem_cons.1 hx with rfl | hx
  ·exact Nat.ne_of_lt h2
  ·exact h1 x hx
 ·intro f hf
  refine f.mono (f.step (f.bound (S.ims f hf)) (fun k _ hk => hb.block k hk)) (fun k hk => ⟨⟨hk.1.1.1, fun x hx => ?_⟩, hk.1.2⟩)
  rcases List.mem_cons.1 hx with rfl | hx
  ·exact Nat.ne_of_lt hk.2
  ·exact hk.1.1.2 x hx
theorem Kn.new2 (S : Kn ok w0 L u U I w) {o o' : Obj} (hg : (w.alloc o).alloc o' = w1) : Kn ok w0 ((w.heap.size + 1, o') :: (w.heap.size, o) :: L) u U I w1 := by
 have h := (S.new rfl).new hg
 rw [show (w.alloc o).heap.size = w.heap.size + 1 by simp] at h
 exact h
theorem Kn.new3 (S : Kn ok w0 L u U I w) {o o' o2 : Obj} (hg : ((w.alloc o).alloc o').alloc o2 = w1) : Kn ok w0 ((w.heap.size + 2, o2) :: (w.heap.size + 1, o') :: (w.heap.size, o) :: L) u U I w1 := by
 have h := (S.new2 rfl).new hg
 rw [show ((w.alloc o).alloc o').heap.size = w.heap.size + 2 by simp] at h
 exact h
theorem Kn.new4 (S : Kn ok w0 L u U I w) {o o' o2 o3 : Obj} (hg : (((w.alloc o).alloc o').alloc o2).alloc o3 = w1) : Kn ok w0 ((w.heap.size + 3, o3) :: (w.heap.size + 2, o2) :: (w.heap.size + 1, o') :: (w.heap.size, o) :: L) u U I w1 := by
 have h := (S.new3 rfl).new hg
 rw [show (((w.alloc o).alloc o').alloc o2).heap.size = w.heap.size + 3 by simp] at h
 exact h
theorem Kn.get (S : Kn ok w0 L u U I w) (i : Nat) {p : Nat} {o : Obj} (hi : L[i]? = some (p, o)) : w.heap[p]? = some o := S.mem (p, o) (List.mem_of_getElem? hi)
theorem Kn.cell (S : Kn ok w0 L u U I w) (i j : Nat) {p t : Nat} {cs : Array Value} {v : Value} (hi : L[i]? = some (p, .cells cs t (0, 0))) (hj : cs[j]? = some v) : w.cell? ⟨p, j, none⟩ = some v := (blk_cell (S.get i hi) j).trans hj
theorem Kn.frozen (S : Kn ok w0 L u U I w) (i j : Nat) {p t : Nat} {cs : Array Value} (hi : L[i]? = some (p, .cells cs t (0, 0))) : w.frozen? ⟨p, j, none⟩ = false := blk_frozen (S.get i hi) j
theorem Out.set {L : List (Nat × Obj)} {i p : Nat} {o o' : Obj} (hi : L[i]? = some (p, o)) (k : Nat) : Out (L.set i (p, o')) k ↔ Out L k := by
 constructor
 ·intro h x hx
  obtain ⟨j, hj, rfl⟩ := List.getElem_of_mem hx
  by_cases e : i = j
  ·subst e
   rw [List.getElem?_eq_getElem hj] at hi
   have := h (p, o') (List.mem_of_getElem? (i := i) (by rw [List.getElem?_set_self hj]))
   rw [Option.some.inj hi]
   exact this
  ·exact h L[j] (List.mem_of_getElem? (i := j) (by rw [List.getElem?_set_ne e, List.getElem?_eq_getElem hj]))
 ·intro h x hx
  rcases List.mem_or_eq_of_mem_set hx with hx | rfl
  ·exact h x hx
  ·exact h (p, o) (List.mem_of_getElem? hi)
/-- A box, or another thing that is the walk's own, is written. -/
theorem Kn.put (S : Kn ok w0 L u U I w) (i : Nat) {p : Nat} {o o' : Obj} (hi : L[i]? = some (p, o)) (hn : w1.heap[p]? = some o') (hk : ∀ k, k ≠ p → w1.heap[k]? = w.heap[k]?) (hs : w.heap.size = w1.heap.size) (hb : Below w0.heap.size w0 w1) : Kn ok w0 (L.set i (p, o')) u U I w1 := by
 have hm : (p, o) ∈ L := List.mem_of_getElem? hi
 have hlt : i < L.length := (List.getElem?_eq_some_iff.1 hi).1
 have hLi : L[i] = (p, o) := (List.getElem?_eq_some_iff.1 hi).2
 have hpw := List.pairwise_iff_getElem.1 S.nod
 refine ⟨hb, ?_, ?_, ?_, ?_, ?_, ?_⟩
 ·intro x hx
  obtain ⟨j, hj, rfl⟩ := List.getElem_of_mem hx
  have hj' : j < L.length := by simpa using hj
  rw [List.getElem_set]
  by_cases e : i = j
  ·subst e
   simpa using hn
  ·rw [if_neg e]
   refine (hk _ ?_).trans (S.mem _ (List.getElem_mem hj'))
   rcases Nat.lt_or_gt_of_ne e with h | h
   ·have := hpw i j hlt hj' h
    rw [hLi] at this
    exact this.symm
   ·have := hpw j i hj' hlt h
    rw [hLi] at this
    exact this
 ·intro x hx
  rcases List.mem_or_eq_of_mem_set hx with hx | rfl
  ·exact S.base x hx
  ·exact S.base (p, o) hm
 ·rw [List.pairwise_iff_getElem]
  intro a b ha hb' hab
  have ha' : a < L.length := by simpa using ha
  have hb'' : b < L.length := by simpa using hb'
  have key : ∀ j (hj : j < L.length) (hj2 : j < (L.set i (p, o')).length), (L.set i (p, o'))[j].1 = L[j].1 := by
   intro j hj hj2
   rw [List.getElem_set]
   by_cases e : i = j
   ·subst e
    simp [hLi]
   ·simp [e]
  rw [key a ha' ha, key b hb'' hb']
  exact hpw a b ha' hb'' hab
 ·refine U.mono (U.step S.own (fun k hok _ => hk k (fun e => hok.2 (p, o) hm e))) (fun k h => ⟨h.1, (Out.set hi k).2 h.2⟩)
 ·intro k hkk
  obtain ⟨h1, h2, h3⟩ := S.oob k hkk
  exact ⟨(Out.set hi k).2 h1, hs ▸ h2, h3⟩
 ·intro f hf
  refine f.mono (f.step (S.ims f hf) (fun k hok _ => hk k (fun e => hok.1.2 (p, o) hm e))) (fun k h => ⟨⟨h.1.1, (Out.set hi k).2 h.1.2⟩, h.2⟩)
theorem Kn.set (S : Kn ok w0 L u U I w) (i : Nat) {j p t : Nat} {cs : Array Value} {v : Value} (hg : w.setCell ⟨p, j, none⟩ v = w1) (hi : L[i]? = some (p, .cells cs t (0, 0))) : Kn ok w0 (L.set i (p, .cells (cs.setIfInBounds j v) t (0, 0))) u U I w1 := by
 subst hg
 refine S.put i hi (blk_set (S.get i hi) j v) (fun k hk => Below.heap_setCell w ⟨p, j, none⟩ v k hk) ?_ ?_
 ·simp [World.setCell]
 ·exact below_set S.bel (S.base _ (List.mem_of_getElem? hi))
theorem V_any {α : Type} {d : Kd α} {e base : Nat} {v : Value} {l : List α} (h : Kd.V d e w base ok v l) : (V d v l).P w ok := Kd.V_mono (e := e) (base := base) h (fun _ h => h)
theorem V_to {α : Type} {d : Kd α} {v : Value} {l : List α} (h : (V d v l).P w ok) (e base : Nat) : Kd.V d e w base ok v l := Kd.V_mono (e := 0) (base := 0) h (fun _ h => h)
theorem R_new {α : Type} {d : Kd α} {e base : Nat} {v : Value} {l : List α} (h : d.R e w base ok v l) : (V d v l).P w (fun k => base ≤ k) := V_any (Kd.R_V (base' := 0) (Kd.R_mono (Kd.R_bound h) (fun k hk => hk.2.1)))
theorem fresh {f : Ft} {P : Nat → Prop} {n : Nat} (h : f.P w (fun k => n ≤ k)) : f.P w (fun k => P k ∨ n ≤ k) := f.mono h (fun _ hk => .inr hk)
theorem Kn.out (S : Kn ok w0 L u U I w) (i : Nat) {f : Ft} (hi : I[i]? = some f) : f.P w (fun k => ok k ∨ w0.heap.size ≤ k) := f.mono (S.ft i hi) (fun _ hk => hk.1.1)
/-- Where a call of the caller's own begins. -/
theorem Kn.enter (ok : Nat → Prop) (w : World) {J : List Ft} (h : ∀ f ∈ J, f.P w ok) : Kn ok w [] nil tt J w :=
 ⟨Below.refl _ _, (fun x h => nomatch h), (fun x h => nomatch h), List.Pairwise.nil, trivial, (fun k h => by simp [Value.ownBlock] at h), fun f hf => f.mono (h f hf) (fun k hk => Ap.nil k hk)⟩
end Go.Proofs.Ytmigglldahkngaa.XSt
end

section
-- Written by a program of this session (wip/tools/xprint.py), which drives the kit's print.
namespace Go.Proofs.Ytmigglldahkngaa.PA
open Go.RowKit Go.Proofs.YtmigglldahkngaaW.PrintWords Go.Proofs.YtmigglldahkngaaW.PrintLast Go.Proofs.YtmigglldahkngaaW.PrintMore
attribute [local go_sem] max2_int min2_int max_two min_two   -- for this text's walks alone
set_option linter.unusedVariables false
set_option linter.unusedSimpArgs false

theorem eqA28 (d : Nat) (w : World) (x0 y0 : Int) (x1 y1 : Int) :
  (Op.equalIn (d + 2) 28 (.agg #[.int .i64 x0, .int .i64 x1]) (.agg #[.int .i64 y0, .int .i64 y1])).run Try.prog w = .ok (x0 == y0 && (x1 == y1)) w := by
 refine eqA_of Try.underlying28 (by kernel_rfl) ?_
 refine eqf_cons (by rfl) (by go_simp; rfl) (by go_simp; rfl) (by go_simp) ?_
 exact eqf_last (by rfl) (by go_simp; rfl) (by go_simp; rfl) (by go_simp)
end Go.Proofs.Ytmigglldahkngaa.PA
end

section
-- Written by a program of this session (wip/tools/xprint.py), which drives the kit's print.
namespace Go.Proofs.Ytmigglldahkngaa.PA
open Go.RowKit Go.Proofs.YtmigglldahkngaaW.PrintWords Go.Proofs.YtmigglldahkngaaW.PrintLast Go.Proofs.YtmigglldahkngaaW.PrintMore
attribute [local go_sem] max2_int min2_int max_two min_two   -- for this text's walks alone
set_option linter.unusedVariables false
set_option linter.unusedSimpArgs false

theorem eqA32 (d : Nat) (w : World) (x0 y0 : Int) (x1 y1 : Int) (x2 y2 : Int) (x3 y3 : ByteArray) :
  (Op.equalIn (d + 2) 32 (.agg #[.int .i64 x0, .int .i64 x1, .int .i64 x2, .string x3]) (.agg #[.int .i64 y0, .int .i64 y1, .int .i64 y2, .string y3])).run Try.prog w = .ok (x0 == y0 && (x1 == y1 && (x2 == y2 && (x3.toList == y3.toList)))) w := by
 refine eqA_of Try.underlying32 (by kernel_rfl) ?_
 refine eqf_cons (by rfl) (by go_simp; rfl) (by go_simp; rfl) (by go_simp) ?_
 refine eqf_cons (by rfl) (by go_simp; rfl) (by go_simp; rfl) (by go_simp) ?_
 refine eqf_cons (by rfl) (by go_simp; rfl) (by go_simp; rfl) (by go_simp) ?_
 exact eqf_last (by rfl) (by go_simp; rfl) (by go_simp; rfl) (by go_simp)
end Go.Proofs.Ytmigglldahkngaa.PA
end

section
-- Written by a program of this session (wip/tools/xprint.py), which drives the kit's print.
namespace Go.Proofs.Ytmigglldahkngaa.PA
open Go.RowKit Go.Proofs.YtmigglldahkngaaW.PrintWords Go.Proofs.YtmigglldahkngaaW.PrintLast Go.Proofs.YtmigglldahkngaaW.PrintMore
attribute [local go_sem] max2_int min2_int max_two min_two   -- for this text's walks alone
set_option linter.unusedVariables false
set_option linter.unusedSimpArgs false

theorem eqA34 (d : Nat) (w : World) (x0 y0 : ByteArray) (x1 y1 : Bool) (x2 y2 : Int) (x3 y3 : Int) (x4 y4 : Int) (x5 y5 : ByteArray) :
  (Op.equalIn (d + 3) 34 (.agg #[.string x0, .bool x1, .int .i64 x2, .int .i64 x3, .int .i64 x4, .string x5]) (.agg #[.string y0, .bool y1, .int .i64 y2, .int .i64 y3, .int .i64 y4, .string y5])).run Try.prog w = .ok (x0.toList == y0.toList && (x1 == y1 && ((x2 == y2 && (x3 == y3 && (x4 == y4 && (x5.toList == y5.toList))))))) w := by
 refine eqA_of Try.underlying34 (by kernel_rfl) ?_
 refine eqf_cons (by rfl) (by go_simp; rfl) (by go_simp; rfl) (by go_simp) ?_
 refine eqf_cons (by rfl) (by go_simp; rfl) (by go_simp; rfl) (by go_simp) ?_
 exact eqf_last (by rfl) (by go_simp) (by go_simp) (eqA32 (d + 0) w _ _ _ _ _ _ _ _)
end Go.Proofs.Ytmigglldahkngaa.PA
end

section
-- Written by a program of this session (wip/tools/xprint.py), which drives the kit's print.
namespace Go.Proofs.Ytmigglldahkngaa.PA
open Go.RowKit Go.Proofs.YtmigglldahkngaaW.PrintWords Go.Proofs.YtmigglldahkngaaW.PrintLast Go.Proofs.YtmigglldahkngaaW.PrintMore Go.Proofs.Ytmigglldahkngaa.XQuiet
attribute [local go_sem] max2_int min2_int max_two min_two   -- for this text's walks alone
set_option linter.unusedVariables false
set_option linter.unusedSimpArgs false

attribute [local go_sem high] eqA28 eqA32 eqA34
/-! ### rollcallref17_Changes: function 10 -/
def rollcallref17_Changes.l0 : Nat → List (S34) → Int → Option (Bool)
 | 0, _, _ => none
 | k + 1, x0, x5 => if x5 < (x0.length : Int) then (if 0 ≤ x5 then (if (((rd_T34 x0 x5).f0).size : Int) > 60 then (some false) else (if (((rd_T34 x0 x5).f2.f3).size : Int) > 100 then (some false) else (rollcallref17_Changes.l0 k x0 (wrap64 (x5 + 1))))) else (none)) else (some true)
def rollcallref17_Changes.f (k : Nat) (l0 : List (S34)) (a1 : Int) : Option (Bool) := if (l0.length : Int) > a1 then (some false) else (rollcallref17_Changes.l0 k l0 0)
set_option maxHeartbeats 8000000 in
set_option maxRecDepth 100000 in
theorem rollcallref17_Changes.calls (k : Nat) (A0 : Option Addr) (c0 : Nat) (l0 : List (S34)) (a1 : Int) (r : Bool) (w : World) (hr0 : Kd.C k34 w A0 l0.length l0) (hc0 : l0.length ≤ c0) (h : rollcallref17_Changes.f k l0 a1 = some r) :
  Calls Try.prog 10 #[.slice A0 l0.length c0, .int .i64 a1] w fun e w' => e = .returned (.bool r) ∧ Drawn0 w w' := by
 have HR0 := Aside0.mk hr0
 have HC0 := Aside0.mk hc0
 clear hr0 hc0
 have H : (if (l0.length : Int) > a1 then (some false) else (rollcallref17_Changes.l0 k l0 0)) = some r := h
 clear h
 by_cases c3 : (l0.length : Int) > a1
 ·rw [if_pos c3] at H
  have c3b0 : decide (a1 < (l0.length : Int)) = true := decide_eq_true c3
  clear c3
  obtain rfl := Option.some.inj H
  go_enter Try.func10, Try.ntmps10
  go_wp2
  go_ret
  exact ⟨by first | rfl | (simp; done) | (simp [*]; done), by repeat (first | exact Drawn0.refl _ | apply Drawn0.step)⟩
 ·rw [if_neg c3] at H
  have c3b0 : decide (a1 < (l0.length : Int)) = false := decide_eq_false c3
  clear c3
  have H' := Aside0.mk H
  clear H
  go_enter Try.func10, Try.ntmps10
  go_wp2
  go_loopg [5] k (fun kq v5 w' => ∃ (x5_1 : Int), v5 = .int .i64 x5_1 ∧ Aside0 (rollcallref17_Changes.l0 kq l0 x5_1 = some r) ∧ Aside0 (kq ≤ k) ∧ Drawn0 w w')
  case atStart => exact ⟨(0), (by first | rfl | (simp; done) | (simp [*]; done)), H', ⟨Nat.le_refl _⟩, by repeat (first | exact Drawn0.refl _ | apply Drawn0.step)⟩
  case round =>
   clear H'
   try clear c1
   try clear p2
   try clear c3
   try clear c3b0
   obtain ⟨x5_1, rfl, HA, HK1, ⟨m1, rfl⟩⟩ := hrel
   cases gk with
   | zero => exact absurd HA.out (by simp [rollcallref17_Changes.l0])
   | succ k1 =>
    have H := HA.out
    clear HA
    simp only [rollcallref17_Changes.l0] at H
    by_cases c4 : x5_1 < (l0.length : Int)
    ·rw [if_pos c4] at H
     have c4b0 : decide (x5_1 < (l0.length : Int)) = true := decide_eq_true c4
     clear c4
     by_cases c5 : 0 ≤ x5_1
     ·rw [if_pos c5] at H
      have c5b0 : decide (0 ≤ x5_1) = true := decide_eq_true c5
      clear c5
      by_cases c6 : (((rd_T34 l0 x5_1).f0).size : Int) > 60
      ·rw [if_pos c6] at H
       have c6b0 : decide (60 < (((rd_T34 l0 x5_1).f0).size : Int)) = true := decide_eq_true c6
       have c6b1 : decide (60 < ((rd_T34 l0 x5_1).f0).size) = true := decide_eq_true (by omega)
       clear c6
       obtain rfl := Option.some.inj H
       have p101 : 0 ≤ (x5_1 : Int) := of_decide_eq_true (by first | (with_reducible assumption) | assumption)
       have q101 : x5_1 < (l0.length : Int) := of_decide_eq_true (by first | (with_reducible assumption) | assumption)
       obtain ⟨ad101, e101, hx101_0, hx101_1, hx101_2, hx101_3, hx101_4, hx101_5⟩ := at_T34 HR0.out x5_1 p101 q101
       cases e101
       replace p101 := eq_true p101
       replace q101 := eq_true q101
       go_wp2
       go_ret
       exact ⟨by first | rfl | (simp; done) | (simp [*]; done), by repeat (first | exact Drawn0.refl _ | apply Drawn0.step)⟩
      ·rw [if_neg c6] at H
       have c6b0 : decide (60 < (((rd_T34 l0 x5_1).f0).size : Int)) = false := decide_eq_false c6
       have c6b1 : decide (60 < ((rd_T34 l0 x5_1).f0).size) = false := decide_eq_false (by omega)
       clear c6
       by_cases c7 : (((rd_T34 l0 x5_1).f2.f3).size : Int) > 100
       ·rw [if_pos c7] at H
        have c7b0 : decide (100 < (((rd_T34 l0 x5_1).f2.f3).size : Int)) = true := decide_eq_true c7
        have c7b1 : decide (100 < ((rd_T34 l0 x5_1).f2.f3).size) = true := decide_eq_true (by omega)
        clear c7
        obtain rfl := Option.some.inj H
        have p101 : 0 ≤ (x5_1 : Int) := of_decide_eq_true (by first | (with_reducible assumption) | assumption)
        have q101 : x5_1 < (l0.length : Int) := of_decide_eq_true (by first | (with_reducible assumption) | assumption)
        obtain ⟨ad101, e101, hx101_0, hx101_1, hx101_2, hx101_3, hx101_4, hx101_5⟩ := at_T34 HR0.out x5_1 p101 q101
        cases e101
        replace p101 := eq_true p101
        replace q101 := eq_true q101
        have p102 : 0 ≤ (x5_1 : Int) := of_decide_eq_true (by first | (with_reducible assumption) | assumption)
        have q102 : x5_1 < (l0.length : Int) := of_decide_eq_true (by first | (with_reducible assumption) | assumption)
        obtain ⟨ad102, e102, hx102_0, hx102_1, hx102_2, hx102_3, hx102_4, hx102_5⟩ := at_T34 HR0.out x5_1 p102 q102
        obtain rfl : ad101 = ad102 := (by injection e102)
        replace p102 := eq_true p102
        replace q102 := eq_true q102
        go_wp2
        go_ret
        exact ⟨by first | rfl | (simp; done) | (simp [*]; done), by repeat (first | exact Drawn0.refl _ | apply Drawn0.step)⟩
       ·rw [if_neg c7] at H
        have c7b0 : decide (100 < (((rd_T34 l0 x5_1).f2.f3).size : Int)) = false := decide_eq_false c7
        have c7b1 : decide (100 < ((rd_T34 l0 x5_1).f2.f3).size) = false := decide_eq_false (by omega)
        clear c7
        have H' := Aside0.mk H
        clear H
        have p101 : 0 ≤ (x5_1 : Int) := of_decide_eq_true (by first | (with_reducible assumption) | assumption)
        have q101 : x5_1 < (l0.length : Int) := of_decide_eq_true (by first | (with_reducible assumption) | assumption)
        obtain ⟨ad101, e101, hx101_0, hx101_1, hx101_2, hx101_3, hx101_4, hx101_5⟩ := at_T34 HR0.out x5_1 p101 q101
        cases e101
        replace p101 := eq_true p101
        replace q101 := eq_true q101
        have p102 : 0 ≤ (x5_1 : Int) := of_decide_eq_true (by first | (with_reducible assumption) | assumption)
        have q102 : x5_1 < (l0.length : Int) := of_decide_eq_true (by first | (with_reducible assumption) | assumption)
        obtain ⟨ad102, e102, hx102_0, hx102_1, hx102_2, hx102_3, hx102_4, hx102_5⟩ := at_T34 HR0.out x5_1 p102 q102
        obtain rfl : ad101 = ad102 := (by injection e102)
        replace p102 := eq_true p102
        replace q102 := eq_true q102
        go_wp2
        go_roundg k1
        case measure => have := HK1.out; omega
        case rel => exact ⟨(wrap64 (x5_1 + 1)), (by first | rfl | (simp; done) | (simp [*]; done)), H', ⟨by have := HK1.out; omega⟩, by repeat (first | exact Drawn0.refl _ | apply Drawn0.step)⟩
     ·rw [if_neg c5] at H
      exact absurd H (by simp)
    ·rw [if_neg c4] at H
     have c4b0 : decide (x5_1 < (l0.length : Int)) = false := decide_eq_false c4
     clear c4
     obtain rfl := Option.some.inj H
     go_wp2
     go_ret
     exact ⟨by first | rfl | (simp; done) | (simp [*]; done), by repeat (first | exact Drawn0.refl _ | apply Drawn0.step)⟩

/-! ### rollcallref17_Few: function 37 -/
def rollcallref17_Few.f (k : Nat) (l0_0 : List (S34)) (a0_1 : Bool) : Option (Bool) := (rollcallref17_Changes.f k l0_0 30).bind fun t104 => (some t104)
set_option maxHeartbeats 8000000 in
set_option maxRecDepth 100000 in
theorem rollcallref17_Few.calls (k : Nat) (A0_0 : Option Addr) (c0_0 : Nat) (l0_0 : List (S34)) (a0_1 : Bool) (r : Bool) (w : World) (hr0_0 : Kd.C k34 w A0_0 l0_0.length l0_0) (hc0_0 : l0_0.length ≤ c0_0) (h : rollcallref17_Few.f k l0_0 a0_1 = some r) :
  Calls Try.prog 37 #[.agg #[.slice A0_0 l0_0.length c0_0, .bool a0_1]] w fun e w' => e = .returned (.bool r) ∧ Below w.heap.size w w' := by
 have hu26 := Try.underlying26
 have HR0_0 := Aside0.mk hr0_0
 have HC0_0 := Aside0.mk hc0_0
 clear hr0_0 hc0_0
 have HB := Aside0.mk (Below.refl w.heap.size w)
 have H : ((rollcallref17_Changes.f k l0_0 30).bind fun t104 => (some t104)) = some r := h
 clear h
 replace H := Option.bind_eq_some_iff.mp H
 obtain ⟨t104, A20, H⟩ := H
 replace H : (some t104) = some r := H
 have A2 := Aside0.mk A20
 clear A20
 obtain rfl := Option.some.inj H
 go_enter Try.func37, Try.ntmps37
 go_wp2_with (first | ((with_reducible refine gate_dst (N := 1) rfl ?_); refine box_event ?hg (N := 1) ?hd (cs := #[.slice A0_0 l0_0.length c0_0, .bool a0_1]) (t := 26) ?hr ?_; (case hd => rfl); (case hg => rfl); (case hr => first | (go_simp; done) | (go_simp; rfl)); intro gb103 hg w3 hbox hb; have BK103 := Aside0.mk (hbox); have GW103 := Aside0.mk ((by rw [hg]; exact (below_size (hS HB.out)) : w.heap.size ≤ gb103)); have GE103 := Aside0.mk ((by rw [hg]; exact (below_size (hS HB.out)) : w.heap.size ≤ gb103)); replace HB := Aside0.mk (below_step (hS HB.out) hb); clear hb hbox hg; have hcz4_0 : w3.cell? ⟨gb103, 0, none⟩ = some (.slice A0_0 l0_0.length c0_0) := (blk_cell BK103.out 0).trans rfl; have hcz4_1 : w3.cell? ⟨gb103, 1, none⟩ = some (.bool a0_1) := (blk_cell BK103.out 1).trans rfl; have hfz4_0 := blk_frozen BK103.out 0; have hfz4_1 := blk_frozen BK103.out 1) | ((with_reducible refine gate_callee (f := 10) rfl ?_); refine goesL_ (some 5) rfl rfl Try.func10 (by kernel_rfl) rfl #[.slice A0_0 l0_0.length c0_0, .int .i64 30] rfl (by (try simp only [List.map_toArray, List.map_cons, List.map_nil]); first | done | rfl | (simp only [List.length_drop, List.length_take]; rfl)) ?_; (with_reducible refine (rollcallref17_Changes.calls k _ _ l0_0 30 t104 _ ?side1 ?side2 A2.out).mono ?_); (case side1 => repeat (first | exact (Kd.C_below HR0_0.out HB.out) | (with_reducible refine Kd.C_alloc ?_ _) | (with_reducible refine Kd.C_drewN ?_ _) | (with_reducible refine Kd.C_drew ?_))); (case side2 => exact HC0_0.out); rintro e w' ⟨rfl, ⟨nd, rfl⟩⟩; refine ⟨_, rfl, ?_⟩))
 go_ret
 exact ⟨by first | rfl | (simp [errW_none, errW_some] <;> rfl) | (simp [*, errW_none, errW_some] <;> rfl), by repeat (first | (with_reducible first | exact HB.out | apply below_alloc | apply pw_below_drewN | apply below_drew1 | refine below_set ?_ GE103.out) | exact HB.out)⟩

/-! ### rollcallref18_Few: function 9 -/
def rollcallref18_Few.f (k : Nat) (a0_0 : Int) (l0_1 : List (S34)) (a0_2 : Bool) (a0_3 : Int) (a0_4 : Int) (a0_5 : Bool) (a0_6 : Int) : Option (Bool) := (rollcallref17_Few.f k l0_1 a0_2).bind fun t106 => (some t106)
set_option maxHeartbeats 8000000 in
set_option maxRecDepth 100000 in
theorem rollcallref18_Few.calls (k : Nat) (a0_0 : Int) (A0_1 : Option Addr) (c0_1 : Nat) (l0_1 : List (S34)) (a0_2 : Bool) (a0_3 : Int) (a0_4 : Int) (a0_5 : Bool) (a0_6 : Int) (r : Bool) (w : World) (hr0_1 : Kd.C k34 w A0_1 l0_1.length l0_1) (hc0_1 : l0_1.length ≤ c0_1) (h : rollcallref18_Few.f k a0_0 l0_1 a0_2 a0_3 a0_4 a0_5 a0_6 = some r) :
  Calls Try.prog 9 #[.agg #[.int .i64 a0_0, .slice A0_1 l0_1.length c0_1, .bool a0_2, .int .i64 a0_3, .int .i64 a0_4, .bool a0_5, .int .i64 a0_6]] w fun e w' => e = .returned (.bool r) ∧ Below w.heap.size w w' := by
 have hu30 := Try.underlying30
 have hu26 := Try.underlying26
 have HR0_1 := Aside0.mk hr0_1
 have HC0_1 := Aside0.mk hc0_1
 clear hr0_1 hc0_1
 have HB := Aside0.mk (Below.refl w.heap.size w)
 have H : ((rollcallref17_Few.f k l0_1 a0_2).bind fun t106 => (some t106)) = some r := h
 clear h
 replace H := Option.bind_eq_some_iff.mp H
 obtain ⟨t106, A20, H⟩ := H
 replace H : (some t106) = some r := H
 have A2 := Aside0.mk A20
 clear A20
 obtain rfl := Option.some.inj H
 go_enter Try.func9, Try.ntmps9
 go_wp2_with (first | ((with_reducible refine gate_dst (N := 1) rfl ?_); refine box_event ?hg (N := 1) ?hd (cs := #[.int .i64 a0_0, .slice A0_1 l0_1.length c0_1, .bool a0_2, .int .i64 a0_3, .int .i64 a0_4, .bool a0_5, .int .i64 a0_6]) (t := 30) ?hr ?_; (case hd => rfl); (case hg => rfl); (case hr => first | (go_simp; done) | (go_simp; rfl)); intro gb105 hg w3 hbox hb; have BK105 := Aside0.mk (hbox); have GW105 := Aside0.mk ((by rw [hg]; exact (below_size (hS HB.out)) : w.heap.size ≤ gb105)); have GE105 := Aside0.mk ((by rw [hg]; exact (below_size (hS HB.out)) : w.heap.size ≤ gb105)); replace HB := Aside0.mk (below_step (hS HB.out) hb); clear hb hbox hg; have hcz4_0 : w3.cell? ⟨gb105, 0, none⟩ = some (.int .i64 a0_0) := (blk_cell BK105.out 0).trans rfl; have hcz4_1 : w3.cell? ⟨gb105, 1, none⟩ = some (.slice A0_1 l0_1.length c0_1) := (blk_cell BK105.out 1).trans rfl; have hcz4_2 : w3.cell? ⟨gb105, 2, none⟩ = some (.bool a0_2) := (blk_cell BK105.out 2).trans rfl; have hcz4_3 : w3.cell? ⟨gb105, 3, none⟩ = some (.int .i64 a0_3) := (blk_cell BK105.out 3).trans rfl; have hcz4_4 : w3.cell? ⟨gb105, 4, none⟩ = some (.int .i64 a0_4) := (blk_cell BK105.out 4).trans rfl; have hcz4_5 : w3.cell? ⟨gb105, 5, none⟩ = some (.bool a0_5) := (blk_cell BK105.out 5).trans rfl; have hcz4_6 : w3.cell? ⟨gb105, 6, none⟩ = some (.int .i64 a0_6) := (blk_cell BK105.out 6).trans rfl; have hfz4_0 := blk_frozen BK105.out 0; have hfz4_1 := blk_frozen BK105.out 1; have hfz4_2 := blk_frozen BK105.out 2; have hfz4_3 := blk_frozen BK105.out 3; have hfz4_4 := blk_frozen BK105.out 4; have hfz4_5 := blk_frozen BK105.out 5; have hfz4_6 := blk_frozen BK105.out 6) | ((with_reducible refine gate_callee (f := 37) rfl ?_); refine goesL_ (some 5) rfl rfl Try.func37 (by kernel_rfl) rfl #[.agg #[.slice A0_1 l0_1.length c0_1, .bool a0_2]] rfl (by (try simp only [List.map_toArray, List.map_cons, List.map_nil]); first | done | rfl | (simp only [List.length_drop, List.length_take]; rfl)) ?_; (with_reducible refine (rollcallref17_Few.calls k _ _ l0_1 a0_2 t106 _ ?side1 ?side2 A2.out).mono ?_); (case side1 => repeat (first | exact (Kd.C_below HR0_1.out HB.out) | (with_reducible refine Kd.C_alloc ?_ _) | (with_reducible refine Kd.C_drewN ?_ _) | (with_reducible refine Kd.C_drew ?_))); (case side2 => exact HC0_1.out); rintro e w5 ⟨rfl, hb⟩; refine ⟨_, rfl, ?_⟩; replace BK105 := Aside0.mk (blk_below (bS BK105.out) hb); replace HB := Aside0.mk (below_step (hS HB.out) hb); (try clear hb); (try clear hb2); (try clear hk); (try clear hi)))
 go_ret
 exact ⟨by first | rfl | (simp [errW_none, errW_some] <;> rfl) | (simp [*, errW_none, errW_some] <;> rfl), by repeat (first | (with_reducible first | exact HB.out | apply below_alloc | apply pw_below_drewN | apply below_drew1 | refine below_set ?_ GE105.out) | exact HB.out)⟩

/-! ### pace_within: function 60 -/
def pace_within.f (a0 : Int) (a1 : Int) (a2 : Int) : Option (Bool) := if a0 ≥ a1 then (some (decide (a0 ≤ a2))) else (some false)
set_option maxHeartbeats 8000000 in
set_option maxRecDepth 100000 in
theorem pace_within.calls (a0 : Int) (a1 : Int) (a2 : Int) (r : Bool) (w : World) (h : pace_within.f a0 a1 a2 = some r) :
  Calls Try.prog 60 #[.int .i64 a0, .int .i64 a1, .int .i64 a2] w fun e w' => e = .returned (.bool r) ∧ Drawn0 w w' := by
 have H : (if a0 ≥ a1 then (some (decide (a0 ≤ a2))) else (some false)) = some r := h
 clear h
 by_cases c4 : a0 ≥ a1
 ·rw [if_pos c4] at H
  have c4b0 : decide (a1 ≤ a0) = true := decide_eq_true c4
  clear c4
  obtain rfl := Option.some.inj H
  go_enter Try.func60, Try.ntmps60
  go_wp2
  go_ret
  exact ⟨by first | rfl | (simp; done) | (simp [*]; done), by repeat (first | exact Drawn0.refl _ | apply Drawn0.step)⟩
 ·rw [if_neg c4] at H
  have c4b0 : decide (a1 ≤ a0) = false := decide_eq_false c4
  clear c4
  obtain rfl := Option.some.inj H
  go_enter Try.func60, Try.ntmps60
  go_wp2
  go_ret
  exact ⟨by first | rfl | (simp; done) | (simp [*]; done), by repeat (first | exact Drawn0.refl _ | apply Drawn0.step)⟩

/-! ### pace_May: function 41 -/
def pace_May.f (a0_0 : Int) (a0_1 : Int) (a0_2 : Int) (a0_3 : Int) : Option (Bool) := (pace_within.f a0_0 1 16).bind fun t108 => (if t108 = true then ((pace_within.f a0_1 1 64).bind fun t109 => (if t109 = true then ((pace_within.f a0_2 1 16).bind fun t110 => (if t110 = true then ((pace_within.f a0_3 1 1000).bind fun t111 => (some t111)) else (some false))) else (some false))) else (some false))
set_option maxHeartbeats 8000000 in
set_option maxRecDepth 100000 in
theorem pace_May.calls (a0_0 : Int) (a0_1 : Int) (a0_2 : Int) (a0_3 : Int) (r : Bool) (w : World) (h : pace_May.f a0_0 a0_1 a0_2 a0_3 = some r) :
  Calls Try.prog 41 #[.agg #[.int .i64 a0_0, .int .i64 a0_1, .int .i64 a0_2, .int .i64 a0_3]] w fun e w' => e = .returned (.bool r) ∧ Below w.heap.size w w' := by
 have hu23 := Try.underlying23
 have HB := Aside0.mk (Below.refl w.heap.size w)
 have H : ((pace_within.f a0_0 1 16).bind fun t108 => (if t108 = true then ((pace_within.f a0_1 1 64).bind fun t109 => (if t109 = true then ((pace_within.f a0_2 1 16).bind fun t110 => (if t110 = true then ((pace_within.f a0_3 1 1000).bind fun t111 => (some t111)) else (some false))) else (some false))) else (some false))) = some r := h
 clear h
 replace H := Option.bind_eq_some_iff.mp H
 obtain ⟨t108, A20, H⟩ := H
 replace H : (if t108 = true then ((pace_within.f a0_1 1 64).bind fun t109 => (if t109 = true then ((pace_within.f a0_2 1 16).bind fun t110 => (if t110 = true then ((pace_within.f a0_3 1 1000).bind fun t111 => (some t111)) else (some false))) else (some false))) else (some false)) = some r := H
 have A2 := Aside0.mk A20
 clear A20
 by_cases c3 : t108 = true
 ·subst c3
  have H1 : ((pace_within.f a0_1 1 64).bind fun t109 => (if t109 = true then ((pace_within.f a0_2 1 16).bind fun t110 => (if t110 = true then ((pace_within.f a0_3 1 1000).bind fun t111 => (some t111)) else (some false))) else (some false))) = some r := by rw [if_pos rfl] at H; exact H
  clear H
  have H := H1
  clear H1
  replace H := Option.bind_eq_some_iff.mp H
  obtain ⟨t109, A40, H⟩ := H
  replace H : (if t109 = true then ((pace_within.f a0_2 1 16).bind fun t110 => (if t110 = true then ((pace_within.f a0_3 1 1000).bind fun t111 => (some t111)) else (some false))) else (some false)) = some r := H
  have A4 := Aside0.mk A40
  clear A40
  by_cases c5 : t109 = true
  ·subst c5
   have H1 : ((pace_within.f a0_2 1 16).bind fun t110 => (if t110 = true then ((pace_within.f a0_3 1 1000).bind fun t111 => (some t111)) else (some false))) = some r := by rw [if_pos rfl] at H; exact H
   clear H
   have H := H1
   clear H1
   replace H := Option.bind_eq_some_iff.mp H
   obtain ⟨t110, A60, H⟩ := H
   replace H : (if t110 = true then ((pace_within.f a0_3 1 1000).bind fun t111 => (some t111)) else (some false)) = some r := H
   have A6 := Aside0.mk A60
   clear A60
   by_cases c7 : t110 = true
   ·subst c7
    have H1 : ((pace_within.f a0_3 1 1000).bind fun t111 => (some t111)) = some r := by rw [if_pos rfl] at H; exact H
    clear H
    have H := H1
    clear H1
    replace H := Option.bind_eq_some_iff.mp H
    obtain ⟨t111, A80, H⟩ := H
    replace H : (some t111) = some r := H
    have A8 := Aside0.mk A80
    clear A80
    obtain rfl := Option.some.inj H
    go_enter Try.func41, Try.ntmps41
    go_wp2_with (first | ((with_reducible refine gate_dst (N := 1) rfl ?_); refine box_event ?hg (N := 1) ?hd (cs := #[.int .i64 a0_0, .int .i64 a0_1, .int .i64 a0_2, .int .i64 a0_3]) (t := 23) ?hr ?_; (case hd => rfl); (case hg => rfl); (case hr => first | (go_simp; done) | (go_simp; rfl)); intro gb107 hg w9 hbox hb; have BK107 := Aside0.mk (hbox); have GW107 := Aside0.mk ((by rw [hg]; exact (below_size (hS HB.out)) : w.heap.size ≤ gb107)); have GE107 := Aside0.mk ((by rw [hg]; exact (below_size (hS HB.out)) : w.heap.size ≤ gb107)); replace HB := Aside0.mk (below_step (hS HB.out) hb); clear hb hbox hg; have hcz10_0 : w9.cell? ⟨gb107, 0, none⟩ = some (.int .i64 a0_0) := (blk_cell BK107.out 0).trans rfl; have hcz10_1 : w9.cell? ⟨gb107, 1, none⟩ = some (.int .i64 a0_1) := (blk_cell BK107.out 1).trans rfl; have hcz10_2 : w9.cell? ⟨gb107, 2, none⟩ = some (.int .i64 a0_2) := (blk_cell BK107.out 2).trans rfl; have hcz10_3 : w9.cell? ⟨gb107, 3, none⟩ = some (.int .i64 a0_3) := (blk_cell BK107.out 3).trans rfl; have hfz10_0 := blk_frozen BK107.out 0; have hfz10_1 := blk_frozen BK107.out 1; have hfz10_2 := blk_frozen BK107.out 2; have hfz10_3 := blk_frozen BK107.out 3) | ((with_reducible refine gate_callee (f := 60) rfl ?_); refine goesL_ (some 5) rfl rfl Try.func60 (by kernel_rfl) rfl #[.int .i64 a0_0, .int .i64 1, .int .i64 16] rfl (by (try simp only [List.map_toArray, List.map_cons, List.map_nil]); first | done | rfl | (simp only [List.length_drop, List.length_take]; rfl)) ?_; (with_reducible refine (pace_within.calls a0_0 1 16 true _ A2.out).mono ?_); rintro e w' ⟨rfl, ⟨nd, rfl⟩⟩; refine ⟨_, rfl, ?_⟩) | (go_at_call 60; (with_reducible refine (pace_within.calls a0_1 1 64 true _ A4.out).mono ?_); rintro e w' ⟨rfl, ⟨nd, rfl⟩⟩) | (go_at_call 60; (with_reducible refine (pace_within.calls a0_2 1 16 true _ A6.out).mono ?_); rintro e w' ⟨rfl, ⟨nd, rfl⟩⟩) | (go_at_call 60; (with_reducible refine (pace_within.calls a0_3 1 1000 t111 _ A8.out).mono ?_); rintro e w' ⟨rfl, ⟨nd, rfl⟩⟩))
    go_ret
    exact ⟨by first | rfl | (simp [errW_none, errW_some] <;> rfl) | (simp [*, errW_none, errW_some] <;> rfl), by repeat (first | (with_reducible first | exact HB.out | apply below_alloc | apply pw_below_drewN | apply below_drew1 | refine below_set ?_ GE107.out) | exact HB.out)⟩
   ·replace c7 := Bool.eq_false_iff.mpr c7
    subst c7
    have H1 : (some false) = some r := by rw [if_neg (show ¬ (false = true) by decide)] at H; exact H
    clear H
    have H := H1
    clear H1
    obtain rfl := Option.some.inj H
    go_enter Try.func41, Try.ntmps41
    go_wp2_with (first | ((with_reducible refine gate_dst (N := 1) rfl ?_); refine box_event ?hg (N := 1) ?hd (cs := #[.int .i64 a0_0, .int .i64 a0_1, .int .i64 a0_2, .int .i64 a0_3]) (t := 23) ?hr ?_; (case hd => rfl); (case hg => rfl); (case hr => first | (go_simp; done) | (go_simp; rfl)); intro gb107 hg w11 hbox hb; have BK107 := Aside0.mk (hbox); have GW107 := Aside0.mk ((by rw [hg]; exact (below_size (hS HB.out)) : w.heap.size ≤ gb107)); have GE107 := Aside0.mk ((by rw [hg]; exact (below_size (hS HB.out)) : w.heap.size ≤ gb107)); replace HB := Aside0.mk (below_step (hS HB.out) hb); clear hb hbox hg; have hcz12_0 : w11.cell? ⟨gb107, 0, none⟩ = some (.int .i64 a0_0) := (blk_cell BK107.out 0).trans rfl; have hcz12_1 : w11.cell? ⟨gb107, 1, none⟩ = some (.int .i64 a0_1) := (blk_cell BK107.out 1).trans rfl; have hcz12_2 : w11.cell? ⟨gb107, 2, none⟩ = some (.int .i64 a0_2) := (blk_cell BK107.out 2).trans rfl; have hcz12_3 : w11.cell? ⟨gb107, 3, none⟩ = some (.int .i64 a0_3) := (blk_cell BK107.out 3).trans rfl; have hfz12_0 := blk_frozen BK107.out 0; have hfz12_1 := blk_frozen BK107.out 1; have hfz12_2 := blk_frozen BK107.out 2; have hfz12_3 := blk_frozen BK107.out 3) | ((with_reducible refine gate_callee (f := 60) rfl ?_); refine goesL_ (some 5) rfl rfl Try.func60 (by kernel_rfl) rfl #[.int .i64 a0_0, .int .i64 1, .int .i64 16] rfl (by (try simp only [List.map_toArray, List.map_cons, List.map_nil]); first | done | rfl | (simp only [List.length_drop, List.length_take]; rfl)) ?_; (with_reducible refine (pace_within.calls a0_0 1 16 true _ A2.out).mono ?_); rintro e w' ⟨rfl, ⟨nd, rfl⟩⟩; refine ⟨_, rfl, ?_⟩) | (go_at_call 60; (with_reducible refine (pace_within.calls a0_1 1 64 true _ A4.out).mono ?_); rintro e w' ⟨rfl, ⟨nd, rfl⟩⟩) | (go_at_call 60; (with_reducible refine (pace_within.calls a0_2 1 16 false _ A6.out).mono ?_); rintro e w' ⟨rfl, ⟨nd, rfl⟩⟩))
    go_ret
    exact ⟨by first | rfl | (simp [errW_none, errW_some] <;> rfl) | (simp [*, errW_none, errW_some] <;> rfl), by repeat (first | (with_reducible first | exact HB.out | apply below_alloc | apply pw_below_drewN | apply below_drew1 | refine below_set ?_ GE107.out) | exact HB.out)⟩
  ·replace c5 := Bool.eq_false_iff.mpr c5
   subst c5
   have H1 : (some false) = some r := by rw [if_neg (show ¬ (false = true) by decide)] at H; exact H
   clear H
   have H := H1
   clear H1
   obtain rfl := Option.some.inj H
   go_enter Try.func41, Try.ntmps41
   go_wp2_with (first | ((with_reducible refine gate_dst (N := 1) rfl ?_); refine box_event ?hg (N := 1) ?hd (cs := #[.int .i64 a0_0, .int .i64 a0_1, .int .i64 a0_2, .int .i64 a0_3]) (t := 23) ?hr ?_; (case hd => rfl); (case hg => rfl); (case hr => first | (go_simp; done) | (go_simp; rfl)); intro gb107 hg w13 hbox hb; have BK107 := Aside0.mk (hbox); have GW107 := Aside0.mk ((by rw [hg]; exact (below_size (hS HB.out)) : w.heap.size ≤ gb107)); have GE107 := Aside0.mk ((by rw [hg]; exact (below_size (hS HB.out)) : w.heap.size ≤ gb107)); replace HB := Aside0.mk (below_step (hS HB.out) hb); clear hb hbox hg; have hcz14_0 : w13.cell? ⟨gb107, 0, none⟩ = some (.int .i64 a0_0) := (blk_cell BK107.out 0).trans rfl; have hcz14_1 : w13.cell? ⟨gb107, 1, none⟩ = some (.int .i64 a0_1) := (blk_cell BK107.out 1).trans rfl; have hcz14_2 : w13.cell? ⟨gb107, 2, none⟩ = some (.int .i64 a0_2) := (blk_cell BK107.out 2).trans rfl; have hcz14_3 : w13.cell? ⟨gb107, 3, none⟩ = some (.int .i64 a0_3) := (blk_cell BK107.out 3).trans rfl; have hfz14_0 := blk_frozen BK107.out 0; have hfz14_1 := blk_frozen BK107.out 1; have hfz14_2 := blk_frozen BK107.out 2; have hfz14_3 := blk_frozen BK107.out 3) | ((with_reducible refine gate_callee (f := 60) rfl ?_); refine goesL_ (some 5) rfl rfl Try.func60 (by kernel_rfl) rfl #[.int .i64 a0_0, .int .i64 1, .int .i64 16] rfl (by (try simp only [List.map_toArray, List.map_cons, List.map_nil]); first | done | rfl | (simp only [List.length_drop, List.length_take]; rfl)) ?_; (with_reducible refine (pace_within.calls a0_0 1 16 true _ A2.out).mono ?_); rintro e w' ⟨rfl, ⟨nd, rfl⟩⟩; refine ⟨_, rfl, ?_⟩) | (go_at_call 60; (with_reducible refine (pace_within.calls a0_1 1 64 false _ A4.out).mono ?_); rintro e w' ⟨rfl, ⟨nd, rfl⟩⟩))
   go_ret
   exact ⟨by first | rfl | (simp [errW_none, errW_some] <;> rfl) | (simp [*, errW_none, errW_some] <;> rfl), by repeat (first | (with_reducible first | exact HB.out | apply below_alloc | apply pw_below_drewN | apply below_drew1 | refine below_set ?_ GE107.out) | exact HB.out)⟩
 ·replace c3 := Bool.eq_false_iff.mpr c3
  subst c3
  have H1 : (some false) = some r := by rw [if_neg (show ¬ (false = true) by decide)] at H; exact H
  clear H
  have H := H1
  clear H1
  obtain rfl := Option.some.inj H
  go_enter Try.func41, Try.ntmps41
  go_wp2_with (first | ((with_reducible refine gate_dst (N := 1) rfl ?_); refine box_event ?hg (N := 1) ?hd (cs := #[.int .i64 a0_0, .int .i64 a0_1, .int .i64 a0_2, .int .i64 a0_3]) (t := 23) ?hr ?_; (case hd => rfl); (case hg => rfl); (case hr => first | (go_simp; done) | (go_simp; rfl)); intro gb107 hg w15 hbox hb; have BK107 := Aside0.mk (hbox); have GW107 := Aside0.mk ((by rw [hg]; exact (below_size (hS HB.out)) : w.heap.size ≤ gb107)); have GE107 := Aside0.mk ((by rw [hg]; exact (below_size (hS HB.out)) : w.heap.size ≤ gb107)); replace HB := Aside0.mk (below_step (hS HB.out) hb); clear hb hbox hg; have hcz16_0 : w15.cell? ⟨gb107, 0, none⟩ = some (.int .i64 a0_0) := (blk_cell BK107.out 0).trans rfl; have hcz16_1 : w15.cell? ⟨gb107, 1, none⟩ = some (.int .i64 a0_1) := (blk_cell BK107.out 1).trans rfl; have hcz16_2 : w15.cell? ⟨gb107, 2, none⟩ = some (.int .i64 a0_2) := (blk_cell BK107.out 2).trans rfl; have hcz16_3 : w15.cell? ⟨gb107, 3, none⟩ = some (.int .i64 a0_3) := (blk_cell BK107.out 3).trans rfl; have hfz16_0 := blk_frozen BK107.out 0; have hfz16_1 := blk_frozen BK107.out 1; have hfz16_2 := blk_frozen BK107.out 2; have hfz16_3 := blk_frozen BK107.out 3) | ((with_reducible refine gate_callee (f := 60) rfl ?_); refine goesL_ (some 5) rfl rfl Try.func60 (by kernel_rfl) rfl #[.int .i64 a0_0, .int .i64 1, .int .i64 16] rfl (by (try simp only [List.map_toArray, List.map_cons, List.map_nil]); first | done | rfl | (simp only [List.length_drop, List.length_take]; rfl)) ?_; (with_reducible refine (pace_within.calls a0_0 1 16 false _ A2.out).mono ?_); rintro e w' ⟨rfl, ⟨nd, rfl⟩⟩; refine ⟨_, rfl, ?_⟩))
  go_ret
  exact ⟨by first | rfl | (simp [errW_none, errW_some] <;> rfl) | (simp [*, errW_none, errW_some] <;> rfl), by repeat (first | (with_reducible first | exact HB.out | apply below_alloc | apply pw_below_drewN | apply below_drew1 | refine below_set ?_ GE107.out) | exact HB.out)⟩

/-! ### pace_New: function 38 -/
def pace_New.f (a0_0 : Int) (a0_1 : Int) (a0_2 : Int) (a0_3 : Int) (a1 : Int) : Option (Int × Int × Int) := (pace_May.f a0_0 a0_1 a0_2 a0_3).bind fun t114 => (if t114 = true then ((pace_within.f a1 0 1099511627776).bind fun t115 => (if t115 = true then (some (a0_1, a1, 0)) else (some (0, 0, 1)))) else (some (0, 0, 1)))
set_option maxHeartbeats 8000000 in
set_option maxRecDepth 100000 in
theorem pace_New.calls (a0_0 : Int) (a0_1 : Int) (a0_2 : Int) (a0_3 : Int) (a1 : Int) (r1 : Int) (r2 : Int) (r3 : Int) (w : World) (h : pace_New.f a0_0 a0_1 a0_2 a0_3 a1 = some (r1, r2, r3)) :
  Calls Try.prog 38 #[.agg #[.int .i64 a0_0, .int .i64 a0_1, .int .i64 a0_2, .int .i64 a0_3], .int .i64 a1] w fun e w' => e = .returned (.tuple #[.agg #[.int .i64 r1, .int .i64 r2], .int .i64 r3]) ∧ Below w.heap.size w w' := by
 have hu23 := Try.underlying23
 have hu28 := Try.underlying28
 have HB := Aside0.mk (Below.refl w.heap.size w)
 have H : ((pace_May.f a0_0 a0_1 a0_2 a0_3).bind fun t114 => (if t114 = true then ((pace_within.f a1 0 1099511627776).bind fun t115 => (if t115 = true then (some (a0_1, a1, 0)) else (some (0, 0, 1)))) else (some (0, 0, 1)))) = some (r1, r2, r3) := h
 clear h
 replace H := Option.bind_eq_some_iff.mp H
 obtain ⟨t114, A30, H⟩ := H
 replace H : (if t114 = true then ((pace_within.f a1 0 1099511627776).bind fun t115 => (if t115 = true then (some (a0_1, a1, 0)) else (some (0, 0, 1)))) else (some (0, 0, 1))) = some (r1, r2, r3) := H
 have A3 := Aside0.mk A30
 clear A30
 by_cases c4 : t114 = true
 ·subst c4
  have H1 : ((pace_within.f a1 0 1099511627776).bind fun t115 => (if t115 = true then (some (a0_1, a1, 0)) else (some (0, 0, 1)))) = some (r1, r2, r3) := by rw [if_pos rfl] at H; exact H
  clear H
  have H := H1
  clear H1
  replace H := Option.bind_eq_some_iff.mp H
  obtain ⟨t115, A50, H⟩ := H
  replace H : (if t115 = true then (some (a0_1, a1, 0)) else (some (0, 0, 1))) = some (r1, r2, r3) := H
  have A5 := Aside0.mk A50
  clear A50
  by_cases c6 : t115 = true
  ·subst c6
   have H1 : (some (a0_1, a1, 0)) = some (r1, r2, r3) := by rw [if_pos rfl] at H; exact H
   clear H
   have H := H1
   clear H1
   simp only [Option.some.injEq, Prod.mk.injEq] at H
   obtain ⟨rfl, rfl, rfl⟩ := H
   go_enter Try.func38, Try.ntmps38
   go_wp2_with (first | ((with_reducible refine gate_dst (N := 2) rfl ?_); refine box_event ?hg (N := 2) ?hd (cs := #[.int .i64 a0_0, .int .i64 a0_1, .int .i64 a0_2, .int .i64 a0_3]) (t := 23) ?hr ?_; (case hd => rfl); (case hg => rfl); (case hr => first | (go_simp; done) | (go_simp; rfl)); intro gb112 hg w7 hbox hb; have BK112 := Aside0.mk (hbox); have GW112 := Aside0.mk ((by rw [hg]; exact (below_size (hS HB.out)) : w.heap.size ≤ gb112)); have GE112 := Aside0.mk ((by rw [hg]; exact (below_size (hS HB.out)) : w.heap.size ≤ gb112)); replace HB := Aside0.mk (below_step (hS HB.out) hb); clear hb hbox hg) | ((with_reducible refine gate_dst (N := 4) rfl ?_); refine box_event ?hg (N := 4) ?hd (cs := #[.int .i64 0, .int .i64 0]) (t := 28) ?hr ?_; (case hd => rfl); (case hg => rfl); (case hr => first | (go_simp; done) | (go_simp; rfl)); intro gb113 hg w8 hbox hb; have BK113 := Aside0.mk (hbox); have GW113 := Aside0.mk ((by rw [hg]; exact (below_size (hS HB.out)) : w.heap.size ≤ gb113)); have GE113 := Aside0.mk ((by rw [hg]; exact (below_size (hS HB.out)) : w.heap.size ≤ gb113)); replace HB := Aside0.mk (below_step (hS HB.out) hb); have NB112_113 := Aside0.mk ((by rw [hg]; exact Nat.ne_of_lt (blk_lt (bS BK112.out)) : gb112 ≠ gb113)); have NB113_112 := Aside0.mk ((by rw [hg]; exact Nat.ne_of_gt (blk_lt (bS BK112.out)) : gb113 ≠ gb112)); replace BK112 := Aside0.mk (blk_below (bS BK112.out) hb); clear hb hbox hg; have hnb9 := NB112_113.out; have hnc9 := NB113_112.out; have hcz10_0 : w8.cell? ⟨gb112, 0, none⟩ = some (.int .i64 a0_0) := (blk_cell BK112.out 0).trans rfl; have hcz10_1 : w8.cell? ⟨gb112, 1, none⟩ = some (.int .i64 a0_1) := (blk_cell BK112.out 1).trans rfl; have hcz10_2 : w8.cell? ⟨gb112, 2, none⟩ = some (.int .i64 a0_2) := (blk_cell BK112.out 2).trans rfl; have hcz10_3 : w8.cell? ⟨gb112, 3, none⟩ = some (.int .i64 a0_3) := (blk_cell BK112.out 3).trans rfl; have hfz10_0 := blk_frozen BK112.out 0; have hfz10_1 := blk_frozen BK112.out 1; have hfz10_2 := blk_frozen BK112.out 2; have hfz10_3 := blk_frozen BK112.out 3) | ((with_reducible refine gate_callee (f := 41) rfl ?_); refine goesL_ (some 7) rfl rfl Try.func41 (by kernel_rfl) rfl #[.agg #[.int .i64 a0_0, .int .i64 a0_1, .int .i64 a0_2, .int .i64 a0_3]] rfl (by (try simp only [List.map_toArray, List.map_cons, List.map_nil]); first | done | rfl | (simp only [List.length_drop, List.length_take]; rfl)) ?_; (with_reducible refine (pace_May.calls a0_0 a0_1 a0_2 a0_3 true _ A3.out).mono ?_); rintro e w11 ⟨rfl, hb⟩; refine ⟨_, rfl, ?_⟩; replace BK112 := Aside0.mk (blk_below (bS BK112.out) hb); replace BK113 := Aside0.mk (blk_below (bS BK113.out) hb); replace HB := Aside0.mk (below_step (hS HB.out) hb); (try clear hb); (try clear hb2); (try clear hk); (try clear hi)) | (go_at_call 60; (with_reducible refine (pace_within.calls a1 0 1099511627776 true _ A5.out).mono ?_); rintro e w' ⟨rfl, ⟨nd, rfl⟩⟩; (try (rw [drewN_self w11]; generalize hq_ : World.drewN w11 _ = w11; have n0_ : Aside0 (w11.heap[gb112]? = some (.cells #[.int .i64 a0_0, .int .i64 a0_1, .int .i64 a0_2, .int .i64 a0_3] 23 (0, 0))) := ⟨by rw [← hq_]; exact (bS BK112.out)⟩; have n1_ : Aside0 (w11.heap[gb113]? = some (.cells #[.int .i64 0, .int .i64 0] 28 (0, 0))) := ⟨by rw [← hq_]; exact (bS BK113.out)⟩; have n2_ : Aside0 (Below w.heap.size w w11) := ⟨by rw [← hq_]; exact (hS HB.out)⟩; clear BK112 BK113 HB hq_; have BK112 := n0_; have BK113 := n1_; have HB := n2_; clear n0_ n1_ n2_)); have hcz12_0 : w11.cell? ⟨gb112, 0, none⟩ = some (.int .i64 a0_0) := (blk_cell BK112.out 0).trans rfl; have hcz12_1 : w11.cell? ⟨gb112, 1, none⟩ = some (.int .i64 a0_1) := (blk_cell BK112.out 1).trans rfl; have hcz12_2 : w11.cell? ⟨gb112, 2, none⟩ = some (.int .i64 a0_2) := (blk_cell BK112.out 2).trans rfl; have hcz12_3 : w11.cell? ⟨gb112, 3, none⟩ = some (.int .i64 a0_3) := (blk_cell BK112.out 3).trans rfl; have hfz12_0 := blk_frozen BK112.out 0; have hfz12_1 := blk_frozen BK112.out 1; have hfz12_2 := blk_frozen BK112.out 2; have hfz12_3 := blk_frozen BK112.out 3; have hcz13_0 : w11.cell? ⟨gb113, 0, none⟩ = some (.int .i64 0) := (blk_cell BK113.out 0).trans rfl; have hcz13_1 : w11.cell? ⟨gb113, 1, none⟩ = some (.int .i64 0) := (blk_cell BK113.out 1).trans rfl; have hfz13_0 := blk_frozen BK113.out 0; have hfz13_1 := blk_frozen BK113.out 1))
   refine bodyPost_ret (results_ct rfl _ _ gb113 28 #[.int .i64 a0_1, .int .i64 a1] (0, 0) _ rfl (bS (blk_put (bS (blk_put (bS BK113.out) 0 _ rfl)) 1 _ rfl)) Try.underlying28 rfl (by kernel_rfl)) rfl ?_
   exact ⟨by first | rfl | (simp [errW_none, errW_some] <;> rfl) | (simp [*, errW_none, errW_some] <;> rfl), by repeat (first | (with_reducible first | exact HB.out | apply below_alloc | apply pw_below_drewN | apply below_drew1 | refine below_set ?_ GE112.out | refine below_set ?_ GE113.out) | exact HB.out)⟩
  ·replace c6 := Bool.eq_false_iff.mpr c6
   subst c6
   have H1 : (some (0, 0, 1)) = some (r1, r2, r3) := by rw [if_neg (show ¬ (false = true) by decide)] at H; exact H
   clear H
   have H := H1
   clear H1
   simp only [Option.some.injEq, Prod.mk.injEq] at H
   obtain ⟨rfl, rfl, rfl⟩ := H
   go_enter Try.func38, Try.ntmps38
   go_wp2_with (first | ((with_reducible refine gate_dst (N := 2) rfl ?_); refine box_event ?hg (N := 2) ?hd (cs := #[.int .i64 a0_0, .int .i64 a0_1, .int .i64 a0_2, .int .i64 a0_3]) (t := 23) ?hr ?_; (case hd => rfl); (case hg => rfl); (case hr => first | (go_simp; done) | (go_simp; rfl)); intro gb112 hg w14 hbox hb; have BK112 := Aside0.mk (hbox); have GW112 := Aside0.mk ((by rw [hg]; exact (below_size (hS HB.out)) : w.heap.size ≤ gb112)); have GE112 := Aside0.mk ((by rw [hg]; exact (below_size (hS HB.out)) : w.heap.size ≤ gb112)); replace HB := Aside0.mk (below_step (hS HB.out) hb); clear hb hbox hg) | ((with_reducible refine gate_dst (N := 4) rfl ?_); refine box_event ?hg (N := 4) ?hd (cs := #[.int .i64 0, .int .i64 0]) (t := 28) ?hr ?_; (case hd => rfl); (case hg => rfl); (case hr => first | (go_simp; done) | (go_simp; rfl)); intro gb113 hg w15 hbox hb; have BK113 := Aside0.mk (hbox); have GW113 := Aside0.mk ((by rw [hg]; exact (below_size (hS HB.out)) : w.heap.size ≤ gb113)); have GE113 := Aside0.mk ((by rw [hg]; exact (below_size (hS HB.out)) : w.heap.size ≤ gb113)); replace HB := Aside0.mk (below_step (hS HB.out) hb); have NB112_113 := Aside0.mk ((by rw [hg]; exact Nat.ne_of_lt (blk_lt (bS BK112.out)) : gb112 ≠ gb113)); have NB113_112 := Aside0.mk ((by rw [hg]; exact Nat.ne_of_gt (blk_lt (bS BK112.out)) : gb113 ≠ gb112)); replace BK112 := Aside0.mk (blk_below (bS BK112.out) hb); clear hb hbox hg; have hnb16 := NB112_113.out; have hnc16 := NB113_112.out; have hcz17_0 : w15.cell? ⟨gb112, 0, none⟩ = some (.int .i64 a0_0) := (blk_cell BK112.out 0).trans rfl; have hcz17_1 : w15.cell? ⟨gb112, 1, none⟩ = some (.int .i64 a0_1) := (blk_cell BK112.out 1).trans rfl; have hcz17_2 : w15.cell? ⟨gb112, 2, none⟩ = some (.int .i64 a0_2) := (blk_cell BK112.out 2).trans rfl; have hcz17_3 : w15.cell? ⟨gb112, 3, none⟩ = some (.int .i64 a0_3) := (blk_cell BK112.out 3).trans rfl; have hfz17_0 := blk_frozen BK112.out 0; have hfz17_1 := blk_frozen BK112.out 1; have hfz17_2 := blk_frozen BK112.out 2; have hfz17_3 := blk_frozen BK112.out 3) | ((with_reducible refine gate_callee (f := 41) rfl ?_); refine goesL_ (some 7) rfl rfl Try.func41 (by kernel_rfl) rfl #[.agg #[.int .i64 a0_0, .int .i64 a0_1, .int .i64 a0_2, .int .i64 a0_3]] rfl (by (try simp only [List.map_toArray, List.map_cons, List.map_nil]); first | done | rfl | (simp only [List.length_drop, List.length_take]; rfl)) ?_; (with_reducible refine (pace_May.calls a0_0 a0_1 a0_2 a0_3 true _ A3.out).mono ?_); rintro e w18 ⟨rfl, hb⟩; refine ⟨_, rfl, ?_⟩; replace BK112 := Aside0.mk (blk_below (bS BK112.out) hb); replace BK113 := Aside0.mk (blk_below (bS BK113.out) hb); replace HB := Aside0.mk (below_step (hS HB.out) hb); (try clear hb); (try clear hb2); (try clear hk); (try clear hi)) | (go_at_call 60; (with_reducible refine (pace_within.calls a1 0 1099511627776 false _ A5.out).mono ?_); rintro e w' ⟨rfl, ⟨nd, rfl⟩⟩; (try (rw [drewN_self w18]; generalize hq_ : World.drewN w18 _ = w18; have n0_ : Aside0 (w18.heap[gb112]? = some (.cells #[.int .i64 a0_0, .int .i64 a0_1, .int .i64 a0_2, .int .i64 a0_3] 23 (0, 0))) := ⟨by rw [← hq_]; exact (bS BK112.out)⟩; have n1_ : Aside0 (w18.heap[gb113]? = some (.cells #[.int .i64 0, .int .i64 0] 28 (0, 0))) := ⟨by rw [← hq_]; exact (bS BK113.out)⟩; have n2_ : Aside0 (Below w.heap.size w w18) := ⟨by rw [← hq_]; exact (hS HB.out)⟩; clear BK112 BK113 HB hq_; have BK112 := n0_; have BK113 := n1_; have HB := n2_; clear n0_ n1_ n2_)); have hcz19_0 : w18.cell? ⟨gb113, 0, none⟩ = some (.int .i64 0) := (blk_cell BK113.out 0).trans rfl; have hcz19_1 : w18.cell? ⟨gb113, 1, none⟩ = some (.int .i64 0) := (blk_cell BK113.out 1).trans rfl; have hfz19_0 := blk_frozen BK113.out 0; have hfz19_1 := blk_frozen BK113.out 1))
   refine bodyPost_ret (results_ct rfl _ _ gb113 28 #[.int .i64 0, .int .i64 0] (0, 0) _ rfl (bS (blk_put (bS (blk_put (bS BK113.out) 0 _ rfl)) 1 _ rfl)) Try.underlying28 rfl (by kernel_rfl)) rfl ?_
   exact ⟨by first | rfl | (simp [errW_none, errW_some] <;> rfl) | (simp [*, errW_none, errW_some] <;> rfl), by repeat (first | (with_reducible first | exact HB.out | apply below_alloc | apply pw_below_drewN | apply below_drew1 | refine below_set ?_ GE112.out | refine below_set ?_ GE113.out) | exact HB.out)⟩
 ·replace c4 := Bool.eq_false_iff.mpr c4
  subst c4
  have H1 : (some (0, 0, 1)) = some (r1, r2, r3) := by rw [if_neg (show ¬ (false = true) by decide)] at H; exact H
  clear H
  have H := H1
  clear H1
  simp only [Option.some.injEq, Prod.mk.injEq] at H
  obtain ⟨rfl, rfl, rfl⟩ := H
  go_enter Try.func38, Try.ntmps38
  go_wp2_with (first | ((with_reducible refine gate_dst (N := 2) rfl ?_); refine box_event ?hg (N := 2) ?hd (cs := #[.int .i64 a0_0, .int .i64 a0_1, .int .i64 a0_2, .int .i64 a0_3]) (t := 23) ?hr ?_; (case hd => rfl); (case hg => rfl); (case hr => first | (go_simp; done) | (go_simp; rfl)); intro gb112 hg w20 hbox hb; have BK112 := Aside0.mk (hbox); have GW112 := Aside0.mk ((by rw [hg]; exact (below_size (hS HB.out)) : w.heap.size ≤ gb112)); have GE112 := Aside0.mk ((by rw [hg]; exact (below_size (hS HB.out)) : w.heap.size ≤ gb112)); replace HB := Aside0.mk (below_step (hS HB.out) hb); clear hb hbox hg) | ((with_reducible refine gate_dst (N := 4) rfl ?_); refine box_event ?hg (N := 4) ?hd (cs := #[.int .i64 0, .int .i64 0]) (t := 28) ?hr ?_; (case hd => rfl); (case hg => rfl); (case hr => first | (go_simp; done) | (go_simp; rfl)); intro gb113 hg w21 hbox hb; have BK113 := Aside0.mk (hbox); have GW113 := Aside0.mk ((by rw [hg]; exact (below_size (hS HB.out)) : w.heap.size ≤ gb113)); have GE113 := Aside0.mk ((by rw [hg]; exact (below_size (hS HB.out)) : w.heap.size ≤ gb113)); replace HB := Aside0.mk (below_step (hS HB.out) hb); have NB112_113 := Aside0.mk ((by rw [hg]; exact Nat.ne_of_lt (blk_lt (bS BK112.out)) : gb112 ≠ gb113)); have NB113_112 := Aside0.mk ((by rw [hg]; exact Nat.ne_of_gt (blk_lt (bS BK112.out)) : gb113 ≠ gb112)); replace BK112 := Aside0.mk (blk_below (bS BK112.out) hb); clear hb hbox hg; have hnb22 := NB112_113.out; have hnc22 := NB113_112.out; have hcz23_0 : w21.cell? ⟨gb112, 0, none⟩ = some (.int .i64 a0_0) := (blk_cell BK112.out 0).trans rfl; have hcz23_1 : w21.cell? ⟨gb112, 1, none⟩ = some (.int .i64 a0_1) := (blk_cell BK112.out 1).trans rfl; have hcz23_2 : w21.cell? ⟨gb112, 2, none⟩ = some (.int .i64 a0_2) := (blk_cell BK112.out 2).trans rfl; have hcz23_3 : w21.cell? ⟨gb112, 3, none⟩ = some (.int .i64 a0_3) := (blk_cell BK112.out 3).trans rfl; have hfz23_0 := blk_frozen BK112.out 0; have hfz23_1 := blk_frozen BK112.out 1; have hfz23_2 := blk_frozen BK112.out 2; have hfz23_3 := blk_frozen BK112.out 3) | ((with_reducible refine gate_callee (f := 41) rfl ?_); refine goesL_ (some 7) rfl rfl Try.func41 (by kernel_rfl) rfl #[.agg #[.int .i64 a0_0, .int .i64 a0_1, .int .i64 a0_2, .int .i64 a0_3]] rfl (by (try simp only [List.map_toArray, List.map_cons, List.map_nil]); first | done | rfl | (simp only [List.length_drop, List.length_take]; rfl)) ?_; (with_reducible refine (pace_May.calls a0_0 a0_1 a0_2 a0_3 false _ A3.out).mono ?_); rintro e w24 ⟨rfl, hb⟩; refine ⟨_, rfl, ?_⟩; replace BK112 := Aside0.mk (blk_below (bS BK112.out) hb); replace BK113 := Aside0.mk (blk_below (bS BK113.out) hb); replace HB := Aside0.mk (below_step (hS HB.out) hb); (try clear hb); (try clear hb2); (try clear hk); (try clear hi); have hcz25_0 : w24.cell? ⟨gb113, 0, none⟩ = some (.int .i64 0) := (blk_cell BK113.out 0).trans rfl; have hcz25_1 : w24.cell? ⟨gb113, 1, none⟩ = some (.int .i64 0) := (blk_cell BK113.out 1).trans rfl; have hfz25_0 := blk_frozen BK113.out 0; have hfz25_1 := blk_frozen BK113.out 1))
  refine bodyPost_ret (results_ct rfl _ _ gb113 28 #[.int .i64 0, .int .i64 0] (0, 0) _ rfl (bS (blk_put (bS (blk_put (bS BK113.out) 0 _ rfl)) 1 _ rfl)) Try.underlying28 rfl (by kernel_rfl)) rfl ?_
  exact ⟨by first | rfl | (simp [errW_none, errW_some] <;> rfl) | (simp [*, errW_none, errW_some] <;> rfl), by repeat (first | (with_reducible first | exact HB.out | apply below_alloc | apply pw_below_drewN | apply below_drew1 | refine below_set ?_ GE112.out | refine below_set ?_ GE113.out) | exact HB.out)⟩

/-! ### link_New: function 12 -/
def link_New.f (a0_0 : Int) (a0_1 : Int) (a0_2 : Int) (a0_3 : Int) (a1 : Int) : Option (Int × (List (S34)) × Bool × Int × Int × Bool × Int × Int) := (pace_New.f a0_0 a0_1 a0_2 a0_3 a1).bind fun bt118 => (if bt118.2.2 = 0 then (some (0, ([] : List (S34)), false, bt118.1, bt118.2.1, true, a1, 0)) else (some (0, ([] : List (S34)), false, 0, 0, false, 0, bt118.2.2)))
set_option maxHeartbeats 8000000 in
set_option maxRecDepth 100000 in
theorem link_New.calls (a0_0 : Int) (a0_1 : Int) (a0_2 : Int) (a0_3 : Int) (a1 : Int) (r1 : Int) (r2 : List (S34)) (r3 : Bool) (r4 : Int) (r5 : Int) (r6 : Bool) (r7 : Int) (r8 : Int) (w : World) (h : link_New.f a0_0 a0_1 a0_2 a0_3 a1 = some (r1, r2, r3, r4, r5, r6, r7, r8)) :
  Calls Try.prog 12 #[.agg #[.int .i64 a0_0, .int .i64 a0_1, .int .i64 a0_2, .int .i64 a0_3], .int .i64 a1] w fun e w' => ∃ v1_ : Value, e = .returned (.tuple #[.agg #[.int .i64 r1, v1_, .bool r3, .int .i64 r4, .int .i64 r5, .bool r6, .int .i64 r7], .int .i64 r8]) ∧ Kd.R k34 34 w' w.heap.size (fun _ => True) v1_ r2 ∧ Below w.heap.size w w' := by
 have hu23 := Try.underlying23
 have hu30 := Try.underlying30
 have hu28 := Try.underlying28
 have HB := Aside0.mk (Below.refl w.heap.size w)
 have H : ((pace_New.f a0_0 a0_1 a0_2 a0_3 a1).bind fun bt118 => (if bt118.2.2 = 0 then (some (0, ([] : List (S34)), false, bt118.1, bt118.2.1, true, a1, 0)) else (some (0, ([] : List (S34)), false, 0, 0, false, 0, bt118.2.2)))) = some (r1, r2, r3, r4, r5, r6, r7, r8) := h
 clear h
 replace H := Option.bind_eq_some_iff.mp H
 obtain ⟨⟨t118, t119, t120⟩, A30, H⟩ := H
 replace H : (if t120 = 0 then (some (0, ([] : List (S34)), false, t118, t119, true, a1, 0)) else (some (0, ([] : List (S34)), false, 0, 0, false, 0, t120))) = some (r1, r2, r3, r4, r5, r6, r7, r8) := H
 have A3 := Aside0.mk A30
 clear A30
 by_cases c4 : t120 = 0
 ·rw [if_pos c4] at H
  have c4b0 : (t120 == 0) = true := beq_iff_eq.mpr c4
  have c4b1 : (t120 != 0) = false := bne_eq_false_iff_eq.mpr c4
  clear c4
  simp only [Option.some.injEq, Prod.mk.injEq] at H
  obtain ⟨rfl, rfl, rfl, rfl, rfl, rfl, rfl, rfl⟩ := H
  go_enter Try.func12, Try.ntmps12
  go_wp2_with (first | ((with_reducible refine gate_dst (N := 2) rfl ?_); refine box_event ?hg (N := 2) ?hd (cs := #[.int .i64 a0_0, .int .i64 a0_1, .int .i64 a0_2, .int .i64 a0_3]) (t := 23) ?hr ?_; (case hd => rfl); (case hg => rfl); (case hr => first | (go_simp; done) | (go_simp; rfl)); intro gb116 hg w5 hbox hb; have BK116 := Aside0.mk (hbox); have GW116 := Aside0.mk ((by rw [hg]; exact (below_size (hS HB.out)) : w.heap.size ≤ gb116)); have GE116 := Aside0.mk ((by rw [hg]; exact (below_size (hS HB.out)) : w.heap.size ≤ gb116)); replace HB := Aside0.mk (below_step (hS HB.out) hb); clear hb hbox hg) | ((with_reducible refine gate_dst (N := 4) rfl ?_); refine box_event ?hg (N := 4) ?hd (cs := #[.int .i64 0, .slice none 0 0, .bool false, .int .i64 0, .int .i64 0, .bool false, .int .i64 0]) (t := 30) ?hr ?_; (case hd => rfl); (case hg => rfl); (case hr => first | (go_simp; done) | (go_simp; rfl)); intro gb117 hg w6 hbox hb; have BK117 := Aside0.mk (hbox); have GW117 := Aside0.mk ((by rw [hg]; exact (below_size (hS HB.out)) : w.heap.size ≤ gb117)); have GE117 := Aside0.mk ((by rw [hg]; exact (below_size (hS HB.out)) : w.heap.size ≤ gb117)); replace HB := Aside0.mk (below_step (hS HB.out) hb); have NB116_117 := Aside0.mk ((by rw [hg]; exact Nat.ne_of_lt (blk_lt (bS BK116.out)) : gb116 ≠ gb117)); have NB117_116 := Aside0.mk ((by rw [hg]; exact Nat.ne_of_gt (blk_lt (bS BK116.out)) : gb117 ≠ gb116)); replace BK116 := Aside0.mk (blk_below (bS BK116.out) hb); clear hb hbox hg; have hnb7 := NB116_117.out; have hnc7 := NB117_116.out; have hcz8_0 : w6.cell? ⟨gb116, 0, none⟩ = some (.int .i64 a0_0) := (blk_cell BK116.out 0).trans rfl; have hcz8_1 : w6.cell? ⟨gb116, 1, none⟩ = some (.int .i64 a0_1) := (blk_cell BK116.out 1).trans rfl; have hcz8_2 : w6.cell? ⟨gb116, 2, none⟩ = some (.int .i64 a0_2) := (blk_cell BK116.out 2).trans rfl; have hcz8_3 : w6.cell? ⟨gb116, 3, none⟩ = some (.int .i64 a0_3) := (blk_cell BK116.out 3).trans rfl; have hfz8_0 := blk_frozen BK116.out 0; have hfz8_1 := blk_frozen BK116.out 1; have hfz8_2 := blk_frozen BK116.out 2; have hfz8_3 := blk_frozen BK116.out 3) | ((with_reducible refine gate_callee (f := 38) rfl ?_); refine goesL_ (some 11) rfl rfl Try.func38 (by kernel_rfl) rfl #[.agg #[.int .i64 a0_0, .int .i64 a0_1, .int .i64 a0_2, .int .i64 a0_3], .int .i64 a1] rfl (by (try simp only [List.map_toArray, List.map_cons, List.map_nil]); first | done | rfl | (simp only [List.length_drop, List.length_take]; rfl)) ?_; (with_reducible refine (pace_New.calls a0_0 a0_1 a0_2 a0_3 a1 t118 t119 t120 _ A3.out).mono ?_); rintro e w9 ⟨rfl, hb⟩; refine ⟨_, rfl, ?_⟩; replace BK116 := Aside0.mk (blk_below (bS BK116.out) hb); replace BK117 := Aside0.mk (blk_below (bS BK117.out) hb); replace HB := Aside0.mk (below_step (hS HB.out) hb); (try clear hb); (try clear hb2); (try clear hk); (try clear hi)) | ((with_reducible refine gate_dst (N := 6) rfl ?_); refine box_event ?hg (N := 6) ?hd (cs := #[.int .i64 0, .int .i64 0]) (t := 28) ?hr ?_; (case hd => rfl); (case hg => rfl); (case hr => first | (go_simp; done) | (go_simp; rfl)); intro gb121 hg w10 hbox hb; have BK121 := Aside0.mk (hbox); have GW121 := Aside0.mk ((by rw [hg]; exact (below_size (hS HB.out)) : w.heap.size ≤ gb121)); have GE121 := Aside0.mk ((by rw [hg]; exact (below_size (hS HB.out)) : w.heap.size ≤ gb121)); replace HB := Aside0.mk (below_step (hS HB.out) hb); have NB116_121 := Aside0.mk ((by rw [hg]; exact Nat.ne_of_lt (blk_lt (bS BK116.out)) : gb116 ≠ gb121)); have NB121_116 := Aside0.mk ((by rw [hg]; exact Nat.ne_of_gt (blk_lt (bS BK116.out)) : gb121 ≠ gb116)); replace BK116 := Aside0.mk (blk_below (bS BK116.out) hb); have NB117_121 := Aside0.mk ((by rw [hg]; exact Nat.ne_of_lt (blk_lt (bS BK117.out)) : gb117 ≠ gb121)); have NB121_117 := Aside0.mk ((by rw [hg]; exact Nat.ne_of_gt (blk_lt (bS BK117.out)) : gb121 ≠ gb117)); replace BK117 := Aside0.mk (blk_below (bS BK117.out) hb); clear hb hbox hg; have hnb11 := NB121_116.out; have hnc11 := NB116_121.out; have hnb12 := NB121_117.out; have hnc12 := NB117_121.out; have hcz13_0 : w10.cell? ⟨gb121, 0, none⟩ = some (.int .i64 0) := (blk_cell BK121.out 0).trans rfl; have hcz13_1 : w10.cell? ⟨gb121, 1, none⟩ = some (.int .i64 0) := (blk_cell BK121.out 1).trans rfl; have hfz13_0 := blk_frozen BK121.out 0; have hfz13_1 := blk_frozen BK121.out 1; have hcz14_0 : w10.cell? ⟨gb117, 0, none⟩ = some (.int .i64 0) := (blk_cell BK117.out 0).trans rfl; have hcz14_1 : w10.cell? ⟨gb117, 1, none⟩ = some (.slice none 0 0) := (blk_cell BK117.out 1).trans rfl; have hcz14_2 : w10.cell? ⟨gb117, 2, none⟩ = some (.bool false) := (blk_cell BK117.out 2).trans rfl; have hcz14_3 : w10.cell? ⟨gb117, 3, none⟩ = some (.int .i64 0) := (blk_cell BK117.out 3).trans rfl; have hcz14_4 : w10.cell? ⟨gb117, 4, none⟩ = some (.int .i64 0) := (blk_cell BK117.out 4).trans rfl; have hcz14_5 : w10.cell? ⟨gb117, 5, none⟩ = some (.bool false) := (blk_cell BK117.out 5).trans rfl; have hcz14_6 : w10.cell? ⟨gb117, 6, none⟩ = some (.int .i64 0) := (blk_cell BK117.out 6).trans rfl; have hfz14_0 := blk_frozen BK117.out 0; have hfz14_1 := blk_frozen BK117.out 1; have hfz14_2 := blk_frozen BK117.out 2; have hfz14_3 := blk_frozen BK117.out 3; have hfz14_4 := blk_frozen BK117.out 4; have hfz14_5 := blk_frozen BK117.out 5; have hfz14_6 := blk_frozen BK117.out 6))
  refine bodyPost_ret (results_ct rfl _ _ gb117 30 #[.int .i64 0, .slice none 0 0, .bool false, .int .i64 t118, .int .i64 t119, .bool true, .int .i64 a1] (0, 0) _ rfl (bS (blk_put (bS (blk_put (bS (blk_put (bS (blk_put (bS (blk_put (bS (blk_put (bS (blk_put (bF (BK117.out) NB117_121.out) 0 _ rfl)) 1 _ rfl)) 2 _ rfl)) 3 _ rfl)) 4 _ rfl)) 5 _ rfl)) 6 _ rfl)) Try.underlying30 rfl (by kernel_rfl)) rfl ?_
  exact ⟨_, by first | rfl | (simp [errW_none, errW_some] <;> rfl) | (simp [*, errW_none, errW_some] <;> rfl), by first | exact Kd.R_nil _ _ _ _ _ | exact Kd.N_nil _ _ _ _ _ | exact Kd.V_nil _ _ _ _ _ | exact Kd.Q_nil _ _ _ _ _ | exact Kd.S_nil _ _ _ _ _, by repeat (first | (with_reducible first | exact HB.out | apply below_alloc | apply pw_below_drewN | apply below_drew1 | refine below_set ?_ GE116.out | refine below_set ?_ GE117.out | refine below_set ?_ GE121.out) | exact HB.out)⟩
 ·rw [if_neg c4] at H
  have c4b0 : (t120 == 0) = false := beq_eq_false_iff_ne.mpr c4
  have c4b1 : (t120 != 0) = true := bne_iff_ne.mpr c4
  simp only [Option.some.injEq, Prod.mk.injEq] at H
  obtain ⟨rfl, rfl, rfl, rfl, rfl, rfl, rfl, rfl⟩ := H
  go_enter Try.func12, Try.ntmps12
  go_wp2_with (first | ((with_reducible refine gate_dst (N := 2) rfl ?_); refine box_event ?hg (N := 2) ?hd (cs := #[.int .i64 a0_0, .int .i64 a0_1, .int .i64 a0_2, .int .i64 a0_3]) (t := 23) ?hr ?_; (case hd => rfl); (case hg => rfl); (case hr => first | (go_simp; done) | (go_simp; rfl)); intro gb116 hg w15 hbox hb; have BK116 := Aside0.mk (hbox); have GW116 := Aside0.mk ((by rw [hg]; exact (below_size (hS HB.out)) : w.heap.size ≤ gb116)); have GE116 := Aside0.mk ((by rw [hg]; exact (below_size (hS HB.out)) : w.heap.size ≤ gb116)); replace HB := Aside0.mk (below_step (hS HB.out) hb); clear hb hbox hg) | ((with_reducible refine gate_dst (N := 4) rfl ?_); refine box_event ?hg (N := 4) ?hd (cs := #[.int .i64 0, .slice none 0 0, .bool false, .int .i64 0, .int .i64 0, .bool false, .int .i64 0]) (t := 30) ?hr ?_; (case hd => rfl); (case hg => rfl); (case hr => first | (go_simp; done) | (go_simp; rfl)); intro gb117 hg w16 hbox hb; have BK117 := Aside0.mk (hbox); have GW117 := Aside0.mk ((by rw [hg]; exact (below_size (hS HB.out)) : w.heap.size ≤ gb117)); have GE117 := Aside0.mk ((by rw [hg]; exact (below_size (hS HB.out)) : w.heap.size ≤ gb117)); replace HB := Aside0.mk (below_step (hS HB.out) hb); have NB116_117 := Aside0.mk ((by rw [hg]; exact Nat.ne_of_lt (blk_lt (bS BK116.out)) : gb116 ≠ gb117)); have NB117_116 := Aside0.mk ((by rw [hg]; exact Nat.ne_of_gt (blk_lt (bS BK116.out)) : gb117 ≠ gb116)); replace BK116 := Aside0.mk (blk_below (bS BK116.out) hb); clear hb hbox hg; have hnb17 := NB116_117.out; have hnc17 := NB117_116.out; have hcz18_0 : w16.cell? ⟨gb116, 0, none⟩ = some (.int .i64 a0_0) := (blk_cell BK116.out 0).trans rfl; have hcz18_1 : w16.cell? ⟨gb116, 1, none⟩ = some (.int .i64 a0_1) := (blk_cell BK116.out 1).trans rfl; have hcz18_2 : w16.cell? ⟨gb116, 2, none⟩ = some (.int .i64 a0_2) := (blk_cell BK116.out 2).trans rfl; have hcz18_3 : w16.cell? ⟨gb116, 3, none⟩ = some (.int .i64 a0_3) := (blk_cell BK116.out 3).trans rfl; have hfz18_0 := blk_frozen BK116.out 0; have hfz18_1 := blk_frozen BK116.out 1; have hfz18_2 := blk_frozen BK116.out 2; have hfz18_3 := blk_frozen BK116.out 3) | ((with_reducible refine gate_callee (f := 38) rfl ?_); refine goesL_ (some 11) rfl rfl Try.func38 (by kernel_rfl) rfl #[.agg #[.int .i64 a0_0, .int .i64 a0_1, .int .i64 a0_2, .int .i64 a0_3], .int .i64 a1] rfl (by (try simp only [List.map_toArray, List.map_cons, List.map_nil]); first | done | rfl | (simp only [List.length_drop, List.length_take]; rfl)) ?_; (with_reducible refine (pace_New.calls a0_0 a0_1 a0_2 a0_3 a1 t118 t119 t120 _ A3.out).mono ?_); rintro e w19 ⟨rfl, hb⟩; refine ⟨_, rfl, ?_⟩; replace BK116 := Aside0.mk (blk_below (bS BK116.out) hb); replace BK117 := Aside0.mk (blk_below (bS BK117.out) hb); replace HB := Aside0.mk (below_step (hS HB.out) hb); (try clear hb); (try clear hb2); (try clear hk); (try clear hi)) | ((with_reducible refine gate_dst (N := 6) rfl ?_); refine box_event ?hg (N := 6) ?hd (cs := #[.int .i64 0, .int .i64 0]) (t := 28) ?hr ?_; (case hd => rfl); (case hg => rfl); (case hr => first | (go_simp; done) | (go_simp; rfl)); intro gb121 hg w20 hbox hb; have BK121 := Aside0.mk (hbox); have GW121 := Aside0.mk ((by rw [hg]; exact (below_size (hS HB.out)) : w.heap.size ≤ gb121)); have GE121 := Aside0.mk ((by rw [hg]; exact (below_size (hS HB.out)) : w.heap.size ≤ gb121)); replace HB := Aside0.mk (below_step (hS HB.out) hb); have NB116_121 := Aside0.mk ((by rw [hg]; exact Nat.ne_of_lt (blk_lt (bS BK116.out)) : gb116 ≠ gb121)); have NB121_116 := Aside0.mk ((by rw [hg]; exact Nat.ne_of_gt (blk_lt (bS BK116.out)) : gb121 ≠ gb116)); replace BK116 := Aside0.mk (blk_below (bS BK116.out) hb); have NB117_121 := Aside0.mk ((by rw [hg]; exact Nat.ne_of_lt (blk_lt (bS BK117.out)) : gb117 ≠ gb121)); have NB121_117 := Aside0.mk ((by rw [hg]; exact Nat.ne_of_gt (blk_lt (bS BK117.out)) : gb121 ≠ gb117)); replace BK117 := Aside0.mk (blk_below (bS BK117.out) hb); clear hb hbox hg; have hnb21 := NB121_116.out; have hnc21 := NB116_121.out; have hnb22 := NB121_117.out; have hnc22 := NB117_121.out; have hcz23_0 : w20.cell? ⟨gb121, 0, none⟩ = some (.int .i64 0) := (blk_cell BK121.out 0).trans rfl; have hcz23_1 : w20.cell? ⟨gb121, 1, none⟩ = some (.int .i64 0) := (blk_cell BK121.out 1).trans rfl; have hfz23_0 := blk_frozen BK121.out 0; have hfz23_1 := blk_frozen BK121.out 1; have hcz24_0 : w20.cell? ⟨gb117, 0, none⟩ = some (.int .i64 0) := (blk_cell BK117.out 0).trans rfl; have hcz24_1 : w20.cell? ⟨gb117, 1, none⟩ = some (.slice none 0 0) := (blk_cell BK117.out 1).trans rfl; have hcz24_2 : w20.cell? ⟨gb117, 2, none⟩ = some (.bool false) := (blk_cell BK117.out 2).trans rfl; have hcz24_3 : w20.cell? ⟨gb117, 3, none⟩ = some (.int .i64 0) := (blk_cell BK117.out 3).trans rfl; have hcz24_4 : w20.cell? ⟨gb117, 4, none⟩ = some (.int .i64 0) := (blk_cell BK117.out 4).trans rfl; have hcz24_5 : w20.cell? ⟨gb117, 5, none⟩ = some (.bool false) := (blk_cell BK117.out 5).trans rfl; have hcz24_6 : w20.cell? ⟨gb117, 6, none⟩ = some (.int .i64 0) := (blk_cell BK117.out 6).trans rfl; have hfz24_0 := blk_frozen BK117.out 0; have hfz24_1 := blk_frozen BK117.out 1; have hfz24_2 := blk_frozen BK117.out 2; have hfz24_3 := blk_frozen BK117.out 3; have hfz24_4 := blk_frozen BK117.out 4; have hfz24_5 := blk_frozen BK117.out 5; have hfz24_6 := blk_frozen BK117.out 6))
  refine bodyPost_ret (results_ct rfl _ _ gb117 30 #[.int .i64 0, .slice none 0 0, .bool false, .int .i64 0, .int .i64 0, .bool false, .int .i64 0] (0, 0) _ rfl (bS (blk_put (bS (blk_put (bS (blk_put (bS (blk_put (bS (blk_put (bS (blk_put (bS (blk_put (bF (BK117.out) NB117_121.out) 0 _ rfl)) 1 _ rfl)) 2 _ rfl)) 3 _ rfl)) 4 _ rfl)) 5 _ rfl)) 6 _ rfl)) Try.underlying30 rfl (by kernel_rfl)) rfl ?_
  exact ⟨_, by first | rfl | (simp [errW_none, errW_some] <;> rfl) | (simp [*, errW_none, errW_some] <;> rfl), by first | exact Kd.R_nil _ _ _ _ _ | exact Kd.N_nil _ _ _ _ _ | exact Kd.V_nil _ _ _ _ _ | exact Kd.Q_nil _ _ _ _ _ | exact Kd.S_nil _ _ _ _ _, by repeat (first | (with_reducible first | exact HB.out | apply below_alloc | apply pw_below_drewN | apply below_drew1 | refine below_set ?_ GE116.out | refine below_set ?_ GE117.out | refine below_set ?_ GE121.out) | exact HB.out)⟩

/-! ### rollcallref05_SameChanges: function 61 -/
def rollcallref05_SameChanges.l0 : Nat → List (S34) → List (S34) → Int → Option (Bool)
 | 0, _, _, _ => none
 | k + 1, x0, x1, x5 => if x5 < (x0.length : Int) then (if 0 ≤ x5 then (if x5 < (x1.length : Int) then (if (!((((rd_T34 x0 x5).f0).toList) == (((rd_T34 x1 x5).f0).toList)) || (!(((rd_T34 x0 x5).f1) == ((rd_T34 x1 x5).f1)) || ((!(((rd_T34 x0 x5).f2.f0) == ((rd_T34 x1 x5).f2.f0)) || (!(((rd_T34 x0 x5).f2.f1) == ((rd_T34 x1 x5).f2.f1)) || (!(((rd_T34 x0 x5).f2.f2) == ((rd_T34 x1 x5).f2.f2)) || (!((((rd_T34 x0 x5).f2.f3).toList) == (((rd_T34 x1 x5).f2.f3).toList))))))))) = true then (some false) else (rollcallref05_SameChanges.l0 k x0 x1 (wrap64 (x5 + 1)))) else (none)) else (none)) else (some true)
def rollcallref05_SameChanges.f (k : Nat) (l0 : List (S34)) (l1 : List (S34)) : Option (Bool) := if (l0.length : Int) = (l1.length : Int) then (rollcallref05_SameChanges.l0 k l0 l1 0) else (some false)
set_option maxHeartbeats 8000000 in
set_option maxRecDepth 100000 in
theorem rollcallref05_SameChanges.calls (k : Nat) (A0 : Option Addr) (c0 : Nat) (l0 : List (S34)) (A1 : Option Addr) (c1 : Nat) (l1 : List (S34)) (r : Bool) (w : World) (hr0 : Kd.C k34 w A0 l0.length l0) (hc0 : l0.length ≤ c0) (hr1 : Kd.C k34 w A1 l1.length l1) (hc1 : l1.length ≤ c1) (h : rollcallref05_SameChanges.f k l0 l1 = some r) :
  Calls Try.prog 61 #[.slice A0 l0.length c0, .slice A1 l1.length c1] w fun e w' => e = .returned (.bool r) ∧ Drawn0 w w' := by
 have hu34 := Try.underlying34
 have HR0 := Aside0.mk hr0
 have HC0 := Aside0.mk hc0
 clear hr0 hc0
 have HR1 := Aside0.mk hr1
 have HC1 := Aside0.mk hc1
 clear hr1 hc1
 have H : (if (l0.length : Int) = (l1.length : Int) then (rollcallref05_SameChanges.l0 k l0 l1 0) else (some false)) = some r := h
 clear h
 by_cases c3 : (l0.length : Int) = (l1.length : Int)
 ·rw [if_pos c3] at H
  have c3b0 : ((l0.length : Int) == (l1.length : Int)) = true := beq_iff_eq.mpr c3
  have c3b1 : ((l0.length : Int) != (l1.length : Int)) = false := bne_eq_false_iff_eq.mpr c3
  have c3b2 : (l0.length == l1.length) = true := by first | simpa using c3 | (simp at c3 ⊢; omega)
  clear c3
  have H' := Aside0.mk H
  clear H
  go_enter Try.func61, Try.ntmps61
  go_wp2
  repeat (go_quiet (fail); try go_wp2)
  go_loopg [5] k (fun kq v5 w' => ∃ (x5_1 : Int), v5 = .int .i64 x5_1 ∧ Aside0 (rollcallref05_SameChanges.l0 kq l0 l1 x5_1 = some r) ∧ Aside0 (kq ≤ k) ∧ Drawn0 w w')
  case atStart => exact ⟨(0), (by first | rfl | (simp; done) | (simp [*]; done)), H', ⟨Nat.le_refl _⟩, by repeat (first | exact Drawn0.refl _ | apply Drawn0.step)⟩
  case round =>
   clear H'
   try clear c1
   try clear p2
   try clear c3
   try clear c3b0
   try clear c3b1
   try clear c3b2
   obtain ⟨x5_1, rfl, HA, HK1, ⟨m1, rfl⟩⟩ := hrel
   cases gk with
   | zero => exact absurd HA.out (by simp [rollcallref05_SameChanges.l0])
   | succ k1 =>
    have H := HA.out
    clear HA
    simp only [rollcallref05_SameChanges.l0] at H
    by_cases c4 : x5_1 < (l0.length : Int)
    ·rw [if_pos c4] at H
     have c4b0 : decide (x5_1 < (l0.length : Int)) = true := decide_eq_true c4
     clear c4
     by_cases c5 : 0 ≤ x5_1
     ·rw [if_pos c5] at H
      have c5b0 : decide (0 ≤ x5_1) = true := decide_eq_true c5
      clear c5
      by_cases c6 : x5_1 < (l1.length : Int)
      ·rw [if_pos c6] at H
       have c6b0 : decide (x5_1 < (l1.length : Int)) = true := decide_eq_true c6
       clear c6
       by_cases c7 : (!((((rd_T34 l0 x5_1).f0).toList) == (((rd_T34 l1 x5_1).f0).toList)) || (!(((rd_T34 l0 x5_1).f1) == ((rd_T34 l1 x5_1).f1)) || ((!(((rd_T34 l0 x5_1).f2.f0) == ((rd_T34 l1 x5_1).f2.f0)) || (!(((rd_T34 l0 x5_1).f2.f1) == ((rd_T34 l1 x5_1).f2.f1)) || (!(((rd_T34 l0 x5_1).f2.f2) == ((rd_T34 l1 x5_1).f2.f2)) || (!((((rd_T34 l0 x5_1).f2.f3).toList) == (((rd_T34 l1 x5_1).f2.f3).toList))))))))) = true
       ·rw [if_pos c7] at H
        have c7b0 : (!((((rd_T34 l0 x5_1).f0).toList) == (((rd_T34 l1 x5_1).f0).toList)) || (!(((rd_T34 l0 x5_1).f1) == ((rd_T34 l1 x5_1).f1)) || ((!(((rd_T34 l0 x5_1).f2.f0) == ((rd_T34 l1 x5_1).f2.f0)) || (!(((rd_T34 l0 x5_1).f2.f1) == ((rd_T34 l1 x5_1).f2.f1)) || (!(((rd_T34 l0 x5_1).f2.f2) == ((rd_T34 l1 x5_1).f2.f2)) || (!((((rd_T34 l0 x5_1).f2.f3).toList) == (((rd_T34 l1 x5_1).f2.f3).toList))))))))) = true := c7
        clear c7
        obtain rfl := Option.some.inj H
        have p122 : 0 ≤ (x5_1 : Int) := of_decide_eq_true (by first | (with_reducible assumption) | assumption)
        have q122 : x5_1 < (l0.length : Int) := of_decide_eq_true (by first | (with_reducible assumption) | assumption)
        obtain ⟨ad122, e122, hx122_0, hx122_1, hx122_2, hx122_3, hx122_4, hx122_5⟩ := at_T34 HR0.out x5_1 p122 q122
        cases e122
        replace p122 := eq_true p122
        replace q122 := eq_true q122
        have p123 : 0 ≤ (x5_1 : Int) := of_decide_eq_true (by first | (with_reducible assumption) | assumption)
        have q123 : x5_1 < (l1.length : Int) := of_decide_eq_true (by first | (with_reducible assumption) | assumption)
        obtain ⟨ad123, e123, hx123_0, hx123_1, hx123_2, hx123_3, hx123_4, hx123_5⟩ := at_T34 HR1.out x5_1 p123 q123
        cases e123
        replace p123 := eq_true p123
        replace q123 := eq_true q123
        go_wp2
        repeat (go_quiet (fail); try go_wp2)
        go_ret
        exact ⟨by first | rfl | (simp; done) | (simp [*]; done), by repeat (first | exact Drawn0.refl _ | apply Drawn0.step)⟩
       ·rw [if_neg c7] at H
        have c7b0 : (!((((rd_T34 l0 x5_1).f0).toList) == (((rd_T34 l1 x5_1).f0).toList)) || (!(((rd_T34 l0 x5_1).f1) == ((rd_T34 l1 x5_1).f1)) || ((!(((rd_T34 l0 x5_1).f2.f0) == ((rd_T34 l1 x5_1).f2.f0)) || (!(((rd_T34 l0 x5_1).f2.f1) == ((rd_T34 l1 x5_1).f2.f1)) || (!(((rd_T34 l0 x5_1).f2.f2) == ((rd_T34 l1 x5_1).f2.f2)) || (!((((rd_T34 l0 x5_1).f2.f3).toList) == (((rd_T34 l1 x5_1).f2.f3).toList))))))))) = false := by simpa using c7
        clear c7
        have H' := Aside0.mk H
        clear H
        have p122 : 0 ≤ (x5_1 : Int) := of_decide_eq_true (by first | (with_reducible assumption) | assumption)
        have q122 : x5_1 < (l0.length : Int) := of_decide_eq_true (by first | (with_reducible assumption) | assumption)
        obtain ⟨ad122, e122, hx122_0, hx122_1, hx122_2, hx122_3, hx122_4, hx122_5⟩ := at_T34 HR0.out x5_1 p122 q122
        cases e122
        replace p122 := eq_true p122
        replace q122 := eq_true q122
        have p123 : 0 ≤ (x5_1 : Int) := of_decide_eq_true (by first | (with_reducible assumption) | assumption)
        have q123 : x5_1 < (l1.length : Int) := of_decide_eq_true (by first | (with_reducible assumption) | assumption)
        obtain ⟨ad123, e123, hx123_0, hx123_1, hx123_2, hx123_3, hx123_4, hx123_5⟩ := at_T34 HR1.out x5_1 p123 q123
        cases e123
        replace p123 := eq_true p123
        replace q123 := eq_true q123
        go_wp2
        repeat (go_quiet (fail); try go_wp2)
        go_roundg k1
        case measure => have := HK1.out; omega
        case rel => exact ⟨(wrap64 (x5_1 + 1)), (by first | rfl | (simp; done) | (simp [*]; done)), H', ⟨by have := HK1.out; omega⟩, by repeat (first | exact Drawn0.refl _ | apply Drawn0.step)⟩
      ·rw [if_neg c6] at H
       exact absurd H (by simp)
     ·rw [if_neg c5] at H
      exact absurd H (by simp)
    ·rw [if_neg c4] at H
     have c4b0 : decide (x5_1 < (l0.length : Int)) = false := decide_eq_false c4
     clear c4
     obtain rfl := Option.some.inj H
     go_wp2
     repeat (go_quiet (fail); try go_wp2)
     go_ret
     exact ⟨by first | rfl | (simp; done) | (simp [*]; done), by repeat (first | exact Drawn0.refl _ | apply Drawn0.step)⟩
 ·rw [if_neg c3] at H
  have c3b0 : ((l0.length : Int) == (l1.length : Int)) = false := beq_eq_false_iff_ne.mpr c3
  have c3b1 : ((l0.length : Int) != (l1.length : Int)) = true := bne_iff_ne.mpr c3
  have c3b2 : (l0.length == l1.length) = false := by first | simpa using c3 | (simp at c3 ⊢; omega)
  obtain rfl := Option.some.inj H
  go_enter Try.func61, Try.ntmps61
  go_wp2
  repeat (go_quiet (fail); try go_wp2)
  go_ret
  exact ⟨by first | rfl | (simp; done) | (simp [*]; done), by repeat (first | exact Drawn0.refl _ | apply Drawn0.step)⟩

/-! ### rollcallref17_Same: function 40 -/
def rollcallref17_Same.f (k : Nat) (l0_0 : List (S34)) (a0_1 : Bool) (l1_0 : List (S34)) (a1_1 : Bool) : Option (Bool) := if (a0_1 == a1_1) = true then ((rollcallref05_SameChanges.f k l0_0 l1_0).bind fun t126 => (some t126)) else (some false)
set_option maxHeartbeats 8000000 in
set_option maxRecDepth 100000 in
theorem rollcallref17_Same.calls (k : Nat) (A0_0 : Option Addr) (c0_0 : Nat) (l0_0 : List (S34)) (a0_1 : Bool) (A1_0 : Option Addr) (c1_0 : Nat) (l1_0 : List (S34)) (a1_1 : Bool) (r : Bool) (w : World) (hr0_0 : Kd.C k34 w A0_0 l0_0.length l0_0) (hc0_0 : l0_0.length ≤ c0_0) (hr1_0 : Kd.C k34 w A1_0 l1_0.length l1_0) (hc1_0 : l1_0.length ≤ c1_0) (h : rollcallref17_Same.f k l0_0 a0_1 l1_0 a1_1 = some r) :
  Calls Try.prog 40 #[.agg #[.slice A0_0 l0_0.length c0_0, .bool a0_1], .agg #[.slice A1_0 l1_0.length c1_0, .bool a1_1]] w fun e w' => e = .returned (.bool r) ∧ Below w.heap.size w w' := by
 have hu26 := Try.underlying26
 have HR0_0 := Aside0.mk hr0_0
 have HC0_0 := Aside0.mk hc0_0
 clear hr0_0 hc0_0
 have HR1_0 := Aside0.mk hr1_0
 have HC1_0 := Aside0.mk hc1_0
 clear hr1_0 hc1_0
 have HB := Aside0.mk (Below.refl w.heap.size w)
 have H : (if (a0_1 == a1_1) = true then ((rollcallref05_SameChanges.f k l0_0 l1_0).bind fun t126 => (some t126)) else (some false)) = some r := h
 clear h
 by_cases c3 : (a0_1 == a1_1) = true
 ·rw [if_pos c3] at H
  have c3b0 : (a0_1 == a1_1) = true := c3
  (try (have c3b1 : decide (a0_1 = a1_1) = true := by simpa using c3))
  (try (have c3b2 : (a0_1 == a1_1) = true := by simpa using c3))
  clear c3
  replace H := Option.bind_eq_some_iff.mp H
  obtain ⟨t126, A40, H⟩ := H
  replace H : (some t126) = some r := H
  have A4 := Aside0.mk A40
  clear A40
  obtain rfl := Option.some.inj H
  go_enter Try.func40, Try.ntmps40
  go_wp2_with (first | ((with_reducible refine gate_dst (N := 2) rfl ?_); refine box_event ?hg (N := 2) ?hd (cs := #[.slice A0_0 l0_0.length c0_0, .bool a0_1]) (t := 26) ?hr ?_; (case hd => rfl); (case hg => rfl); (case hr => first | (go_simp; done) | (go_simp; rfl)); intro gb124 hg w5 hbox hb; have BK124 := Aside0.mk (hbox); have GW124 := Aside0.mk ((by rw [hg]; exact (below_size (hS HB.out)) : w.heap.size ≤ gb124)); have GE124 := Aside0.mk ((by rw [hg]; exact (below_size (hS HB.out)) : w.heap.size ≤ gb124)); replace HB := Aside0.mk (below_step (hS HB.out) hb); clear hb hbox hg) | ((with_reducible refine gate_dst (N := 3) rfl ?_); refine box_event ?hg (N := 3) ?hd (cs := #[.slice A1_0 l1_0.length c1_0, .bool a1_1]) (t := 26) ?hr ?_; (case hd => rfl); (case hg => rfl); (case hr => first | (go_simp; done) | (go_simp; rfl)); intro gb125 hg w6 hbox hb; have BK125 := Aside0.mk (hbox); have GW125 := Aside0.mk ((by rw [hg]; exact (below_size (hS HB.out)) : w.heap.size ≤ gb125)); have GE125 := Aside0.mk ((by rw [hg]; exact (below_size (hS HB.out)) : w.heap.size ≤ gb125)); replace HB := Aside0.mk (below_step (hS HB.out) hb); have NB124_125 := Aside0.mk ((by rw [hg]; exact Nat.ne_of_lt (blk_lt (bS BK124.out)) : gb124 ≠ gb125)); have NB125_124 := Aside0.mk ((by rw [hg]; exact Nat.ne_of_gt (blk_lt (bS BK124.out)) : gb125 ≠ gb124)); replace BK124 := Aside0.mk (blk_below (bS BK124.out) hb); clear hb hbox hg; have hnb7 := NB124_125.out; have hnc7 := NB125_124.out; have hcz8_0 : w6.cell? ⟨gb124, 0, none⟩ = some (.slice A0_0 l0_0.length c0_0) := (blk_cell BK124.out 0).trans rfl; have hcz8_1 : w6.cell? ⟨gb124, 1, none⟩ = some (.bool a0_1) := (blk_cell BK124.out 1).trans rfl; have hfz8_0 := blk_frozen BK124.out 0; have hfz8_1 := blk_frozen BK124.out 1; have hcz9_0 : w6.cell? ⟨gb125, 0, none⟩ = some (.slice A1_0 l1_0.length c1_0) := (blk_cell BK125.out 0).trans rfl; have hcz9_1 : w6.cell? ⟨gb125, 1, none⟩ = some (.bool a1_1) := (blk_cell BK125.out 1).trans rfl; have hfz9_0 := blk_frozen BK125.out 0; have hfz9_1 := blk_frozen BK125.out 1) | (go_at_call 61; (with_reducible refine (rollcallref05_SameChanges.calls k _ _ l0_0 _ _ l1_0 t126 _ ?side1 ?side2 ?side3 ?side4 A4.out).mono ?_); (case side1 => repeat (first | exact (Kd.C_below HR0_0.out HB.out) | (with_reducible refine Kd.C_alloc ?_ _) | (with_reducible refine Kd.C_drewN ?_ _) | (with_reducible refine Kd.C_drew ?_))); (case side2 => exact HC0_0.out); (case side3 => repeat (first | exact (Kd.C_below HR1_0.out HB.out) | (with_reducible refine Kd.C_alloc ?_ _) | (with_reducible refine Kd.C_drewN ?_ _) | (with_reducible refine Kd.C_drew ?_))); (case side4 => exact HC1_0.out); rintro e w' ⟨rfl, ⟨nd, rfl⟩⟩))
  go_ret
  exact ⟨by first | rfl | (simp [errW_none, errW_some] <;> rfl) | (simp [*, errW_none, errW_some] <;> rfl), by repeat (first | (with_reducible first | exact HB.out | apply below_alloc | apply pw_below_drewN | apply below_drew1 | refine below_set ?_ GE124.out | refine below_set ?_ GE125.out) | exact HB.out)⟩
 ·rw [if_neg c3] at H
  have c3b0 : (a0_1 == a1_1) = false := by simpa using c3
  (try (have c3b1 : decide (a0_1 = a1_1) = false := by simpa using c3))
  (try (have c3b2 : (a0_1 == a1_1) = false := by simpa using c3))
  (try (have c3b3 : ¬ (a0_1 = a1_1) := by simpa using c3))
  clear c3
  obtain rfl := Option.some.inj H
  go_enter Try.func40, Try.ntmps40
  go_wp2_with (first | ((with_reducible refine gate_dst (N := 2) rfl ?_); refine box_event ?hg (N := 2) ?hd (cs := #[.slice A0_0 l0_0.length c0_0, .bool a0_1]) (t := 26) ?hr ?_; (case hd => rfl); (case hg => rfl); (case hr => first | (go_simp; done) | (go_simp; rfl)); intro gb124 hg w10 hbox hb; have BK124 := Aside0.mk (hbox); have GW124 := Aside0.mk ((by rw [hg]; exact (below_size (hS HB.out)) : w.heap.size ≤ gb124)); have GE124 := Aside0.mk ((by rw [hg]; exact (below_size (hS HB.out)) : w.heap.size ≤ gb124)); replace HB := Aside0.mk (below_step (hS HB.out) hb); clear hb hbox hg) | ((with_reducible refine gate_dst (N := 3) rfl ?_); refine box_event ?hg (N := 3) ?hd (cs := #[.slice A1_0 l1_0.length c1_0, .bool a1_1]) (t := 26) ?hr ?_; (case hd => rfl); (case hg => rfl); (case hr => first | (go_simp; done) | (go_simp; rfl)); intro gb125 hg w11 hbox hb; have BK125 := Aside0.mk (hbox); have GW125 := Aside0.mk ((by rw [hg]; exact (below_size (hS HB.out)) : w.heap.size ≤ gb125)); have GE125 := Aside0.mk ((by rw [hg]; exact (below_size (hS HB.out)) : w.heap.size ≤ gb125)); replace HB := Aside0.mk (below_step (hS HB.out) hb); have NB124_125 := Aside0.mk ((by rw [hg]; exact Nat.ne_of_lt (blk_lt (bS BK124.out)) : gb124 ≠ gb125)); have NB125_124 := Aside0.mk ((by rw [hg]; exact Nat.ne_of_gt (blk_lt (bS BK124.out)) : gb125 ≠ gb124)); replace BK124 := Aside0.mk (blk_below (bS BK124.out) hb); clear hb hbox hg; have hnb12 := NB124_125.out; have hnc12 := NB125_124.out; have hcz13_0 : w11.cell? ⟨gb124, 0, none⟩ = some (.slice A0_0 l0_0.length c0_0) := (blk_cell BK124.out 0).trans rfl; have hcz13_1 : w11.cell? ⟨gb124, 1, none⟩ = some (.bool a0_1) := (blk_cell BK124.out 1).trans rfl; have hfz13_0 := blk_frozen BK124.out 0; have hfz13_1 := blk_frozen BK124.out 1; have hcz14_0 : w11.cell? ⟨gb125, 0, none⟩ = some (.slice A1_0 l1_0.length c1_0) := (blk_cell BK125.out 0).trans rfl; have hcz14_1 : w11.cell? ⟨gb125, 1, none⟩ = some (.bool a1_1) := (blk_cell BK125.out 1).trans rfl; have hfz14_0 := blk_frozen BK125.out 0; have hfz14_1 := blk_frozen BK125.out 1))
  go_ret
  exact ⟨by first | rfl | (simp [errW_none, errW_some] <;> rfl) | (simp [*, errW_none, errW_some] <;> rfl), by repeat (first | (with_reducible first | exact HB.out | apply below_alloc | apply pw_below_drewN | apply below_drew1 | refine below_set ?_ GE124.out | refine below_set ?_ GE125.out) | exact HB.out)⟩

/-! ### rollcallref18_Same: function 14 -/
def rollcallref18_Same.f (k : Nat) (a0_0 : Int) (l0_1 : List (S34)) (a0_2 : Bool) (a0_3 : Int) (a0_4 : Int) (a0_5 : Bool) (a0_6 : Int) (a1_0 : Int) (l1_1 : List (S34)) (a1_2 : Bool) (a1_3 : Int) (a1_4 : Int) (a1_5 : Bool) (a1_6 : Int) : Option (Bool) := if a0_0 = a1_0 then ((rollcallref17_Same.f k l0_1 a0_2 l1_1 a1_2).bind fun t129 => (if t129 = true then (if (a0_3 == a1_3 && (a0_4 == a1_4)) = true then (if (a0_5 == a1_5) = true then (some (a0_6 == a1_6)) else (some false)) else (some false)) else (some false))) else (some false)
set_option maxHeartbeats 8000000 in
set_option maxRecDepth 100000 in
theorem rollcallref18_Same.calls (k : Nat) (a0_0 : Int) (A0_1 : Option Addr) (c0_1 : Nat) (l0_1 : List (S34)) (a0_2 : Bool) (a0_3 : Int) (a0_4 : Int) (a0_5 : Bool) (a0_6 : Int) (a1_0 : Int) (A1_1 : Option Addr) (c1_1 : Nat) (l1_1 : List (S34)) (a1_2 : Bool) (a1_3 : Int) (a1_4 : Int) (a1_5 : Bool) (a1_6 : Int) (r : Bool) (w : World) (hr0_1 : Kd.C k34 w A0_1 l0_1.length l0_1) (hc0_1 : l0_1.length ≤ c0_1) (hr1_1 : Kd.C k34 w A1_1 l1_1.length l1_1) (hc1_1 : l1_1.length ≤ c1_1) (h : rollcallref18_Same.f k a0_0 l0_1 a0_2 a0_3 a0_4 a0_5 a0_6 a1_0 l1_1 a1_2 a1_3 a1_4 a1_5 a1_6 = some r) :
  Calls Try.prog 14 #[.agg #[.int .i64 a0_0, .slice A0_1 l0_1.length c0_1, .bool a0_2, .int .i64 a0_3, .int .i64 a0_4, .bool a0_5, .int .i64 a0_6], .agg #[.int .i64 a1_0, .slice A1_1 l1_1.length c1_1, .bool a1_2, .int .i64 a1_3, .int .i64 a1_4, .bool a1_5, .int .i64 a1_6]] w fun e w' => e = .returned (.bool r) ∧ Below w.heap.size w w' := by
 unfold rollcallref18_Same.f at h
 have HV : ∀ (A : Option Addr) (c : Nat) (l : List (S34)), Kd.C k34 w A l.length l → l.length ≤ c → Kd.V k34 0 w 0 (fun _ => True) (.slice A l.length c) l := fun A c l hr hc => ⟨A, c, rfl, hc, Kd.F_mono (Kd.C_F (show Kd.Heap k34 from ⟨fun _ hK => by obtain rfl := k34_open hK; exact k34_mk _ _⟩) hr) (fun _ _ => trivial)⟩
 have S := ((Go.Proofs.Ytmigglldahkngaa.XSt.Kn.start (fun _ => True) w).arg (d := k34) (e := 0) (HV _ _ _ hr0_1 hc0_1)).arg (d := k34) (e := 0) (HV _ _ _ hr1_1 hc1_1)
 clear hr0_1 hc0_1 hr1_1 hc1_1 HV
 obtain ⟨w0, hw0⟩ : ∃ x : World, x = w := ⟨_, rfl⟩
 have HW := Aside0.mk hw0
 clear hw0
 go_enter Try.func14, Try.ntmps14
 go_upto_region 1 with (fail)
 generalize hg : World.alloc _ _ = w1
 replace S := S.new2 hg
 clear hg
 generalize w.heap.size + 1 = p3 at S ⊢
 generalize w.heap.size = p2 at S ⊢
 replace S : Go.Proofs.Ytmigglldahkngaa.XSt.Kn (fun _ => True) w [(p3, .cells #[.int .i64 a1_0, .slice A1_1 l1_1.length c1_1, .bool a1_2, .int .i64 a1_3, .int .i64 a1_4, .bool a1_5, .int .i64 a1_6] 30 (0, 0)), (p2, .cells #[.int .i64 a0_0, .slice A0_1 l0_1.length c0_1, .bool a0_2, .int .i64 a0_3, .int .i64 a0_4, .bool a0_5, .int .i64 a0_6] 30 (0, 0))] Go.Proofs.Ytmigglldahkngaa.XSt.nil Go.Proofs.Ytmigglldahkngaa.XSt.tt [Go.Proofs.Ytmigglldahkngaa.XSt.V k34 (.slice A1_1 l1_1.length c1_1) l1_1, Go.Proofs.Ytmigglldahkngaa.XSt.V k34 (.slice A0_1 l0_1.length c0_1) l0_1] w1 := S
 have a_0 : w1.cell? ⟨p2, 0, none⟩ = some (.int .i64 a0_0) := S.cell 1 0 rfl rfl
 have a_1 : w1.cell? ⟨p2, 1, none⟩ = some (.slice A0_1 l0_1.length c0_1) := S.cell 1 1 rfl rfl
 have a_2 : w1.cell? ⟨p2, 2, none⟩ = some (.bool a0_2) := S.cell 1 2 rfl rfl
 have a_3 : w1.cell? ⟨p2, 3, none⟩ = some (.int .i64 a0_3) := S.cell 1 3 rfl rfl
 have a_4 : w1.cell? ⟨p2, 4, none⟩ = some (.int .i64 a0_4) := S.cell 1 4 rfl rfl
 have a_5 : w1.cell? ⟨p2, 5, none⟩ = some (.bool a0_5) := S.cell 1 5 rfl rfl
 have a_6 : w1.cell? ⟨p2, 6, none⟩ = some (.int .i64 a0_6) := S.cell 1 6 rfl rfl
 have b_0 : w1.cell? ⟨p3, 0, none⟩ = some (.int .i64 a1_0) := S.cell 0 0 rfl rfl
 have b_1 : w1.cell? ⟨p3, 1, none⟩ = some (.slice A1_1 l1_1.length c1_1) := S.cell 0 1 rfl rfl
 have b_2 : w1.cell? ⟨p3, 2, none⟩ = some (.bool a1_2) := S.cell 0 2 rfl rfl
 have b_3 : w1.cell? ⟨p3, 3, none⟩ = some (.int .i64 a1_3) := S.cell 0 3 rfl rfl
 have b_4 : w1.cell? ⟨p3, 4, none⟩ = some (.int .i64 a1_4) := S.cell 0 4 rfl rfl
 have b_5 : w1.cell? ⟨p3, 5, none⟩ = some (.bool a1_5) := S.cell 0 5 rfl rfl
 have b_6 : w1.cell? ⟨p3, 6, none⟩ = some (.int .i64 a1_6) := S.cell 0 6 rfl rfl
 by_cases q0 : a0_0 = a1_0
 rotate_left
 ·rw [if_neg q0] at h
  obtain rfl := Option.some.inj h
  go_wp2
  go_ret
  exact ⟨rfl, S.bel⟩
 rw [if_pos q0] at h
 rcases hX : rollcallref17_Same.f k l0_1 a0_2 l1_1 a1_2 with _ | b1
 ·rw [hX] at h; exact absurd h (by simp)
 rw [hX] at h
 simp only [Option.bind_some] at h
 have HX_b1 := Aside0.mk hX
 clear hX
 go_wp2_with fail
 refine (rollcallref17_Same.calls k A0_1 c0_1 l0_1 a0_2 A1_1 c1_1 l1_1 a1_2 b1 _ (Kd.V_reads' (e := 0) (base := 0) (S.ft 1 rfl)).2.2 (Kd.V_reads' (e := 0) (base := 0) (S.ft 1 rfl)).2.1 (Kd.V_reads' (e := 0) (base := 0) (S.ft 0 rfl)).2.2 (Kd.V_reads' (e := 0) (base := 0) (S.ft 0 rfl)).2.1 HX_b1.out).mono ?_
 rintro e w2 ⟨rfl, hb⟩
 replace S := S.below (by first | exact hb | exact hb.below)
 clear a_0 a_1 a_2 a_3 a_4 a_5 a_6 b_0 b_1 b_2 b_3 b_4 b_5 b_6 hb
 have a_0 : w2.cell? ⟨p2, 0, none⟩ = some (.int .i64 a0_0) := S.cell 1 0 rfl rfl
 have a_1 : w2.cell? ⟨p2, 1, none⟩ = some (.slice A0_1 l0_1.length c0_1) := S.cell 1 1 rfl rfl
 have a_2 : w2.cell? ⟨p2, 2, none⟩ = some (.bool a0_2) := S.cell 1 2 rfl rfl
 have a_3 : w2.cell? ⟨p2, 3, none⟩ = some (.int .i64 a0_3) := S.cell 1 3 rfl rfl
 have a_4 : w2.cell? ⟨p2, 4, none⟩ = some (.int .i64 a0_4) := S.cell 1 4 rfl rfl
 have a_5 : w2.cell? ⟨p2, 5, none⟩ = some (.bool a0_5) := S.cell 1 5 rfl rfl
 have a_6 : w2.cell? ⟨p2, 6, none⟩ = some (.int .i64 a0_6) := S.cell 1 6 rfl rfl
 have b_0 : w2.cell? ⟨p3, 0, none⟩ = some (.int .i64 a1_0) := S.cell 0 0 rfl rfl
 have b_1 : w2.cell? ⟨p3, 1, none⟩ = some (.slice A1_1 l1_1.length c1_1) := S.cell 0 1 rfl rfl
 have b_2 : w2.cell? ⟨p3, 2, none⟩ = some (.bool a1_2) := S.cell 0 2 rfl rfl
 have b_3 : w2.cell? ⟨p3, 3, none⟩ = some (.int .i64 a1_3) := S.cell 0 3 rfl rfl
 have b_4 : w2.cell? ⟨p3, 4, none⟩ = some (.int .i64 a1_4) := S.cell 0 4 rfl rfl
 have b_5 : w2.cell? ⟨p3, 5, none⟩ = some (.bool a1_5) := S.cell 0 5 rfl rfl
 have b_6 : w2.cell? ⟨p3, 6, none⟩ = some (.int .i64 a1_6) := S.cell 0 6 rfl rfl
 cases b1 with
 | false =>
  rw [if_neg (by simp)] at h
  obtain rfl := Option.some.inj h
  go_wp2
  go_ret
  exact ⟨rfl, S.bel⟩
 | true =>
  rw [if_pos rfl] at h
  cases q4 : (a0_3 == a1_3 && (a0_4 == a1_4)) with
  | false =>
   rw [q4, if_neg (by simp)] at h
   obtain rfl := Option.some.inj h
   go_wp2
   go_ret
   exact ⟨rfl, S.bel⟩
  | true =>
   rw [q4, if_pos rfl] at h
   cases q5 : (a0_5 == a1_5) with
   | false =>
    rw [q5, if_neg (by simp)] at h
    obtain rfl := Option.some.inj h
    go_wp2
    go_ret
    exact ⟨rfl, S.bel⟩
   | true =>
    rw [q5, if_pos rfl] at h
    obtain rfl := Option.some.inj h
    go_wp2
    go_ret
    exact ⟨rfl, S.bel⟩
/-! ### link_time: function 42 -/
def link_time.f (a0 : Int) : Option (Bool) := if a0 ≥ 0 then (some (decide (a0 ≤ 1099511627776))) else (some false)
set_option maxHeartbeats 8000000 in
set_option maxRecDepth 100000 in
theorem link_time.calls (a0 : Int) (r : Bool) (w : World) (h : link_time.f a0 = some r) :
  Calls Try.prog 42 #[.int .i64 a0] w fun e w' => e = .returned (.bool r) ∧ Drawn0 w w' := by
 have H : (if a0 ≥ 0 then (some (decide (a0 ≤ 1099511627776))) else (some false)) = some r := h
 clear h
 by_cases c2 : a0 ≥ 0
 ·rw [if_pos c2] at H
  have c2b0 : decide (0 ≤ a0) = true := decide_eq_true c2
  clear c2
  obtain rfl := Option.some.inj H
  go_enter Try.func42, Try.ntmps42
  go_wp2
  go_ret
  exact ⟨by first | rfl | (simp; done) | (simp [*]; done), by repeat (first | exact Drawn0.refl _ | apply Drawn0.step)⟩
 ·rw [if_neg c2] at H
  have c2b0 : decide (0 ≤ a0) = false := decide_eq_false c2
  clear c2
  obtain rfl := Option.some.inj H
  go_enter Try.func42, Try.ntmps42
  go_wp2
  go_ret
  exact ⟨by first | rfl | (simp; done) | (simp [*]; done), by repeat (first | exact Drawn0.refl _ | apply Drawn0.step)⟩

/-! ### api_Change_string: function 62 -/
abbrev api_Change_string.f := @Go.Proofs.Ytmigglldahkngaa.XPlace.queue_place.f
set_option maxHeartbeats 1000000 in
theorem api_Change_string.calls (A0 : Option Addr) (c0 : Nat) (l0 : List (S34)) (a1 : ByteArray) (r1 : Int) (r2 : Bool) (w : World) (hr0 : Kd.C k34 w A0 l0.length l0) (hc0 : l0.length ≤ c0) (h : api_Change_string.f l0 a1 = some (r1, r2)) :
  Calls Try.prog 62 #[.slice A0 l0.length c0, .string a1, .func (.func 63) #[] #[]] w fun e w' => e = .returned (.tuple #[.int .i64 r1, .bool r2]) ∧ Below w.heap.size w w' := Go.Proofs.Ytmigglldahkngaa.XPlace.queue_place.calls A0 c0 l0 a1 r1 r2 w hr0 hc0 h

/-! ### queue_contact: function 63 -/
/-! ### ident_Is: function 68 -/
abbrev ident_Is.f := @Go.Proofs.Ytmigglldahkngaa.XIdent.ident_Is.f
set_option maxHeartbeats 1000000 in
theorem ident_Is.calls (a0 : ByteArray) (r : Bool) (w : World) (h : ident_Is.f a0 = some r) :
  Calls Try.prog 68 #[.string a0] w fun e w' => e = .returned (.bool r) ∧ Below w.heap.size w w' := Go.Proofs.Ytmigglldahkngaa.XIdent.ident_Is.calls a0 r w h

/-! ### value_May: function 69 -/
abbrev value_May.f := @Go.Proofs.Ytmigglldahkngaa.XMay.value_May.f
set_option maxHeartbeats 1000000 in
theorem value_May.calls (a0_0 : Int) (a0_1 : Int) (a0_2 : Int) (a0_3 : ByteArray) (r : Bool) (w : World) (h : value_May.f a0_0 a0_1 a0_2 a0_3 = some r) :
  Calls Try.prog 69 #[.agg #[.int .i64 a0_0, .int .i64 a0_1, .int .i64 a0_2, .string a0_3]] w fun e w' => e = .returned (.bool r) ∧ Below w.heap.size w w' := Go.Proofs.Ytmigglldahkngaa.XMay.value_May.calls a0_0 a0_1 a0_2 a0_3 r w h

/-! ### queue_One: function 64 -/
def queue_One.f (a0_0 : ByteArray) (a0_1 : Bool) (a0_2 : Int) (a0_3 : Int) (a0_4 : Int) (a0_5 : ByteArray) : Option (Bool) := if a0_1 = true then ((ident_Is.f a0_0).bind fun t132 => (if t132 = true then ((value_May.f a0_2 a0_3 a0_4 a0_5).bind fun t133 => (some t133)) else (some false))) else ((ident_Is.f a0_0).bind fun t134 => (if t134 = true then (some (a0_2 == 0 && (a0_3 == 0 && (a0_4 == 0 && (a0_5.toList == ([] : List UInt8)))))) else (some false)))
set_option maxHeartbeats 8000000 in
set_option maxRecDepth 100000 in
theorem queue_One.calls (a0_0 : ByteArray) (a0_1 : Bool) (a0_2 : Int) (a0_3 : Int) (a0_4 : Int) (a0_5 : ByteArray) (r : Bool) (w : World) (h : queue_One.f a0_0 a0_1 a0_2 a0_3 a0_4 a0_5 = some r) :
  Calls Try.prog 64 #[.agg #[.string a0_0, .bool a0_1, .int .i64 a0_2, .int .i64 a0_3, .int .i64 a0_4, .string a0_5]] w fun e w' => e = .returned (.bool r) ∧ Below w.heap.size w w' := by
 have hu34 := Try.underlying34
 have hu32 := Try.underlying32
 have HB := Aside0.mk (Below.refl w.heap.size w)
 have H : (if a0_1 = true then ((ident_Is.f a0_0).bind fun t132 => (if t132 = true then ((value_May.f a0_2 a0_3 a0_4 a0_5).bind fun t133 => (some t133)) else (some false))) else ((ident_Is.f a0_0).bind fun t134 => (if t134 = true then (some (a0_2 == 0 && (a0_3 == 0 && (a0_4 == 0 && (a0_5.toList == ([] : List UInt8)))))) else (some false)))) = some r := h
 clear h
 by_cases c2 : a0_1 = true
 ·subst c2
  have H1 : ((ident_Is.f a0_0).bind fun t132 => (if t132 = true then ((value_May.f a0_2 a0_3 a0_4 a0_5).bind fun t133 => (some t133)) else (some false))) = some r := by rw [if_pos rfl] at H; exact H
  clear H
  have H := H1
  clear H1
  replace H := Option.bind_eq_some_iff.mp H
  obtain ⟨t132, A30, H⟩ := H
  replace H : (if t132 = true then ((value_May.f a0_2 a0_3 a0_4 a0_5).bind fun t133 => (some t133)) else (some false)) = some r := H
  have A3 := Aside0.mk A30
  clear A30
  by_cases c4 : t132 = true
  ·subst c4
   have H1 : ((value_May.f a0_2 a0_3 a0_4 a0_5).bind fun t133 => (some t133)) = some r := by rw [if_pos rfl] at H; exact H
   clear H
   have H := H1
   clear H1
   replace H := Option.bind_eq_some_iff.mp H
   obtain ⟨t133, A50, H⟩ := H
   replace H : (some t133) = some r := H
   have A5 := Aside0.mk A50
   clear A50
   obtain rfl := Option.some.inj H
   go_enter Try.func64, Try.ntmps64
   go_wp2_with (first | ((with_reducible refine gate_dst (N := 1) rfl ?_); refine box_event ?hg (N := 1) ?hd (cs := #[.string a0_0, .bool true, .int .i64 a0_2, .int .i64 a0_3, .int .i64 a0_4, .string a0_5]) (t := 34) ?hr ?_; (case hd => rfl); (case hg => rfl); (case hr => first | (go_simp; done) | (go_simp; rfl)); intro gb131 hg w6 hbox hb; have BK131 := Aside0.mk (hbox); have GW131 := Aside0.mk ((by rw [hg]; exact (below_size (hS HB.out)) : w.heap.size ≤ gb131)); have GE131 := Aside0.mk ((by rw [hg]; exact (below_size (hS HB.out)) : w.heap.size ≤ gb131)); replace HB := Aside0.mk (below_step (hS HB.out) hb); clear hb hbox hg; have hcz7_0 : w6.cell? ⟨gb131, 0, none⟩ = some (.string a0_0) := (blk_cell BK131.out 0).trans rfl; have hcz7_1 : w6.cell? ⟨gb131, 1, none⟩ = some (.bool true) := (blk_cell BK131.out 1).trans rfl; have hcz7_2 : w6.cell? ⟨gb131, 2, none⟩ = some (.int .i64 a0_2) := (blk_cell BK131.out 2).trans rfl; have hcz7_3 : w6.cell? ⟨gb131, 3, none⟩ = some (.int .i64 a0_3) := (blk_cell BK131.out 3).trans rfl; have hcz7_4 : w6.cell? ⟨gb131, 4, none⟩ = some (.int .i64 a0_4) := (blk_cell BK131.out 4).trans rfl; have hcz7_5 : w6.cell? ⟨gb131, 5, none⟩ = some (.string a0_5) := (blk_cell BK131.out 5).trans rfl; have hfz7_0 := blk_frozen BK131.out 0; have hfz7_1 := blk_frozen BK131.out 1; have hfz7_2 := blk_frozen BK131.out 2; have hfz7_3 := blk_frozen BK131.out 3; have hfz7_4 := blk_frozen BK131.out 4; have hfz7_5 := blk_frozen BK131.out 5) | ((with_reducible refine gate_callee (f := 68) rfl ?_); refine goesL_ (some 7) rfl rfl Try.func68 (by kernel_rfl) rfl #[.string a0_0] rfl (by (try simp only [List.map_toArray, List.map_cons, List.map_nil]); first | done | rfl | (simp only [List.length_drop, List.length_take]; rfl)) ?_; (with_reducible refine (ident_Is.calls a0_0 true _ A3.out).mono ?_); rintro e w8 ⟨rfl, hb⟩; refine ⟨_, rfl, ?_⟩; replace BK131 := Aside0.mk (blk_below (bS BK131.out) hb); replace HB := Aside0.mk (below_step (hS HB.out) hb); (try clear hb); (try clear hb2); (try clear hk); (try clear hi); have hcz9_0 : w8.cell? ⟨gb131, 0, none⟩ = some (.string a0_0) := (blk_cell BK131.out 0).trans rfl; have hcz9_1 : w8.cell? ⟨gb131, 1, none⟩ = some (.bool true) := (blk_cell BK131.out 1).trans rfl; have hcz9_2 : w8.cell? ⟨gb131, 2, none⟩ = some (.int .i64 a0_2) := (blk_cell BK131.out 2).trans rfl; have hcz9_3 : w8.cell? ⟨gb131, 3, none⟩ = some (.int .i64 a0_3) := (blk_cell BK131.out 3).trans rfl; have hcz9_4 : w8.cell? ⟨gb131, 4, none⟩ = some (.int .i64 a0_4) := (blk_cell BK131.out 4).trans rfl; have hcz9_5 : w8.cell? ⟨gb131, 5, none⟩ = some (.string a0_5) := (blk_cell BK131.out 5).trans rfl; have hfz9_0 := blk_frozen BK131.out 0; have hfz9_1 := blk_frozen BK131.out 1; have hfz9_2 := blk_frozen BK131.out 2; have hfz9_3 := blk_frozen BK131.out 3; have hfz9_4 := blk_frozen BK131.out 4; have hfz9_5 := blk_frozen BK131.out 5) | (go_at_call 69; (with_reducible refine (value_May.calls a0_2 a0_3 a0_4 a0_5 t133 _ A5.out).mono ?_); rintro e w10 ⟨rfl, hb⟩; replace BK131 := Aside0.mk (blk_below (bS BK131.out) hb); replace HB := Aside0.mk (below_step (hS HB.out) hb); (try clear hb); (try clear hb2); (try clear hk); (try clear hi)))
   go_ret
   exact ⟨by first | rfl | (simp [errW_none, errW_some] <;> rfl) | (simp [*, errW_none, errW_some] <;> rfl), by repeat (first | (with_reducible first | exact HB.out | apply below_alloc | apply pw_below_drewN | apply below_drew1 | refine below_set ?_ GE131.out) | exact HB.out)⟩
  ·replace c4 := Bool.eq_false_iff.mpr c4
   subst c4
   have H1 : (some false) = some r := by rw [if_neg (show ¬ (false = true) by decide)] at H; exact H
   clear H
   have H := H1
   clear H1
   obtain rfl := Option.some.inj H
   go_enter Try.func64, Try.ntmps64
   go_wp2_with (first | ((with_reducible refine gate_dst (N := 1) rfl ?_); refine box_event ?hg (N := 1) ?hd (cs := #[.string a0_0, .bool true, .int .i64 a0_2, .int .i64 a0_3, .int .i64 a0_4, .string a0_5]) (t := 34) ?hr ?_; (case hd => rfl); (case hg => rfl); (case hr => first | (go_simp; done) | (go_simp; rfl)); intro gb131 hg w11 hbox hb; have BK131 := Aside0.mk (hbox); have GW131 := Aside0.mk ((by rw [hg]; exact (below_size (hS HB.out)) : w.heap.size ≤ gb131)); have GE131 := Aside0.mk ((by rw [hg]; exact (below_size (hS HB.out)) : w.heap.size ≤ gb131)); replace HB := Aside0.mk (below_step (hS HB.out) hb); clear hb hbox hg; have hcz12_0 : w11.cell? ⟨gb131, 0, none⟩ = some (.string a0_0) := (blk_cell BK131.out 0).trans rfl; have hcz12_1 : w11.cell? ⟨gb131, 1, none⟩ = some (.bool true) := (blk_cell BK131.out 1).trans rfl; have hcz12_2 : w11.cell? ⟨gb131, 2, none⟩ = some (.int .i64 a0_2) := (blk_cell BK131.out 2).trans rfl; have hcz12_3 : w11.cell? ⟨gb131, 3, none⟩ = some (.int .i64 a0_3) := (blk_cell BK131.out 3).trans rfl; have hcz12_4 : w11.cell? ⟨gb131, 4, none⟩ = some (.int .i64 a0_4) := (blk_cell BK131.out 4).trans rfl; have hcz12_5 : w11.cell? ⟨gb131, 5, none⟩ = some (.string a0_5) := (blk_cell BK131.out 5).trans rfl; have hfz12_0 := blk_frozen BK131.out 0; have hfz12_1 := blk_frozen BK131.out 1; have hfz12_2 := blk_frozen BK131.out 2; have hfz12_3 := blk_frozen BK131.out 3; have hfz12_4 := blk_frozen BK131.out 4; have hfz12_5 := blk_frozen BK131.out 5) | ((with_reducible refine gate_callee (f := 68) rfl ?_); refine goesL_ (some 7) rfl rfl Try.func68 (by kernel_rfl) rfl #[.string a0_0] rfl (by (try simp only [List.map_toArray, List.map_cons, List.map_nil]); first | done | rfl | (simp only [List.length_drop, List.length_take]; rfl)) ?_; (with_reducible refine (ident_Is.calls a0_0 false _ A3.out).mono ?_); rintro e w13 ⟨rfl, hb⟩; refine ⟨_, rfl, ?_⟩; replace BK131 := Aside0.mk (blk_below (bS BK131.out) hb); replace HB := Aside0.mk (below_step (hS HB.out) hb); (try clear hb); (try clear hb2); (try clear hk); (try clear hi)))
   go_ret
   exact ⟨by first | rfl | (simp [errW_none, errW_some] <;> rfl) | (simp [*, errW_none, errW_some] <;> rfl), by repeat (first | (with_reducible first | exact HB.out | apply below_alloc | apply pw_below_drewN | apply below_drew1 | refine below_set ?_ GE131.out) | exact HB.out)⟩
 ·replace c2 := Bool.eq_false_iff.mpr c2
  subst c2
  have H1 : ((ident_Is.f a0_0).bind fun t134 => (if t134 = true then (some (a0_2 == 0 && (a0_3 == 0 && (a0_4 == 0 && (a0_5.toList == ([] : List UInt8)))))) else (some false))) = some r := by rw [if_neg (show ¬ (false = true) by decide)] at H; exact H
  clear H
  have H := H1
  clear H1
  replace H := Option.bind_eq_some_iff.mp H
  obtain ⟨t134, A140, H⟩ := H
  replace H : (if t134 = true then (some (a0_2 == 0 && (a0_3 == 0 && (a0_4 == 0 && (a0_5.toList == ([] : List UInt8)))))) else (some false)) = some r := H
  have A14 := Aside0.mk A140
  clear A140
  by_cases c15 : t134 = true
  ·subst c15
   have H1 : (some (a0_2 == 0 && (a0_3 == 0 && (a0_4 == 0 && (a0_5.toList == ([] : List UInt8)))))) = some r := by rw [if_pos rfl] at H; exact H
   clear H
   have H := H1
   clear H1
   obtain rfl := Option.some.inj H
   go_enter Try.func64, Try.ntmps64
   go_wp2_with (first | ((with_reducible refine gate_dst (N := 1) rfl ?_); refine box_event ?hg (N := 1) ?hd (cs := #[.string a0_0, .bool false, .int .i64 a0_2, .int .i64 a0_3, .int .i64 a0_4, .string a0_5]) (t := 34) ?hr ?_; (case hd => rfl); (case hg => rfl); (case hr => first | (go_simp; done) | (go_simp; rfl)); intro gb131 hg w16 hbox hb; have BK131 := Aside0.mk (hbox); have GW131 := Aside0.mk ((by rw [hg]; exact (below_size (hS HB.out)) : w.heap.size ≤ gb131)); have GE131 := Aside0.mk ((by rw [hg]; exact (below_size (hS HB.out)) : w.heap.size ≤ gb131)); replace HB := Aside0.mk (below_step (hS HB.out) hb); clear hb hbox hg; have hcz17_0 : w16.cell? ⟨gb131, 0, none⟩ = some (.string a0_0) := (blk_cell BK131.out 0).trans rfl; have hcz17_1 : w16.cell? ⟨gb131, 1, none⟩ = some (.bool false) := (blk_cell BK131.out 1).trans rfl; have hcz17_2 : w16.cell? ⟨gb131, 2, none⟩ = some (.int .i64 a0_2) := (blk_cell BK131.out 2).trans rfl; have hcz17_3 : w16.cell? ⟨gb131, 3, none⟩ = some (.int .i64 a0_3) := (blk_cell BK131.out 3).trans rfl; have hcz17_4 : w16.cell? ⟨gb131, 4, none⟩ = some (.int .i64 a0_4) := (blk_cell BK131.out 4).trans rfl; have hcz17_5 : w16.cell? ⟨gb131, 5, none⟩ = some (.string a0_5) := (blk_cell BK131.out 5).trans rfl; have hfz17_0 := blk_frozen BK131.out 0; have hfz17_1 := blk_frozen BK131.out 1; have hfz17_2 := blk_frozen BK131.out 2; have hfz17_3 := blk_frozen BK131.out 3; have hfz17_4 := blk_frozen BK131.out 4; have hfz17_5 := blk_frozen BK131.out 5) | ((with_reducible refine gate_callee (f := 68) rfl ?_); refine goesL_ (some 15) rfl rfl Try.func68 (by kernel_rfl) rfl #[.string a0_0] rfl (by (try simp only [List.map_toArray, List.map_cons, List.map_nil]); first | done | rfl | (simp only [List.length_drop, List.length_take]; rfl)) ?_; (with_reducible refine (ident_Is.calls a0_0 true _ A14.out).mono ?_); rintro e w18 ⟨rfl, hb⟩; refine ⟨_, rfl, ?_⟩; replace BK131 := Aside0.mk (blk_below (bS BK131.out) hb); replace HB := Aside0.mk (below_step (hS HB.out) hb); (try clear hb); (try clear hb2); (try clear hk); (try clear hi); have hcz19_0 : w18.cell? ⟨gb131, 0, none⟩ = some (.string a0_0) := (blk_cell BK131.out 0).trans rfl; have hcz19_1 : w18.cell? ⟨gb131, 1, none⟩ = some (.bool false) := (blk_cell BK131.out 1).trans rfl; have hcz19_2 : w18.cell? ⟨gb131, 2, none⟩ = some (.int .i64 a0_2) := (blk_cell BK131.out 2).trans rfl; have hcz19_3 : w18.cell? ⟨gb131, 3, none⟩ = some (.int .i64 a0_3) := (blk_cell BK131.out 3).trans rfl; have hcz19_4 : w18.cell? ⟨gb131, 4, none⟩ = some (.int .i64 a0_4) := (blk_cell BK131.out 4).trans rfl; have hcz19_5 : w18.cell? ⟨gb131, 5, none⟩ = some (.string a0_5) := (blk_cell BK131.out 5).trans rfl; have hfz19_0 := blk_frozen BK131.out 0; have hfz19_1 := blk_frozen BK131.out 1; have hfz19_2 := blk_frozen BK131.out 2; have hfz19_3 := blk_frozen BK131.out 3; have hfz19_4 := blk_frozen BK131.out 4; have hfz19_5 := blk_frozen BK131.out 5))
   go_ret
   exact ⟨by first | rfl | (simp [errW_none, errW_some] <;> rfl) | (simp [*, errW_none, errW_some] <;> rfl), by repeat (first | (with_reducible first | exact HB.out | apply below_alloc | apply pw_below_drewN | apply below_drew1 | refine below_set ?_ GE131.out) | exact HB.out)⟩
  ·replace c15 := Bool.eq_false_iff.mpr c15
   subst c15
   have H1 : (some false) = some r := by rw [if_neg (show ¬ (false = true) by decide)] at H; exact H
   clear H
   have H := H1
   clear H1
   obtain rfl := Option.some.inj H
   go_enter Try.func64, Try.ntmps64
   go_wp2_with (first | ((with_reducible refine gate_dst (N := 1) rfl ?_); refine box_event ?hg (N := 1) ?hd (cs := #[.string a0_0, .bool false, .int .i64 a0_2, .int .i64 a0_3, .int .i64 a0_4, .string a0_5]) (t := 34) ?hr ?_; (case hd => rfl); (case hg => rfl); (case hr => first | (go_simp; done) | (go_simp; rfl)); intro gb131 hg w20 hbox hb; have BK131 := Aside0.mk (hbox); have GW131 := Aside0.mk ((by rw [hg]; exact (below_size (hS HB.out)) : w.heap.size ≤ gb131)); have GE131 := Aside0.mk ((by rw [hg]; exact (below_size (hS HB.out)) : w.heap.size ≤ gb131)); replace HB := Aside0.mk (below_step (hS HB.out) hb); clear hb hbox hg; have hcz21_0 : w20.cell? ⟨gb131, 0, none⟩ = some (.string a0_0) := (blk_cell BK131.out 0).trans rfl; have hcz21_1 : w20.cell? ⟨gb131, 1, none⟩ = some (.bool false) := (blk_cell BK131.out 1).trans rfl; have hcz21_2 : w20.cell? ⟨gb131, 2, none⟩ = some (.int .i64 a0_2) := (blk_cell BK131.out 2).trans rfl; have hcz21_3 : w20.cell? ⟨gb131, 3, none⟩ = some (.int .i64 a0_3) := (blk_cell BK131.out 3).trans rfl; have hcz21_4 : w20.cell? ⟨gb131, 4, none⟩ = some (.int .i64 a0_4) := (blk_cell BK131.out 4).trans rfl; have hcz21_5 : w20.cell? ⟨gb131, 5, none⟩ = some (.string a0_5) := (blk_cell BK131.out 5).trans rfl; have hfz21_0 := blk_frozen BK131.out 0; have hfz21_1 := blk_frozen BK131.out 1; have hfz21_2 := blk_frozen BK131.out 2; have hfz21_3 := blk_frozen BK131.out 3; have hfz21_4 := blk_frozen BK131.out 4; have hfz21_5 := blk_frozen BK131.out 5) | ((with_reducible refine gate_callee (f := 68) rfl ?_); refine goesL_ (some 15) rfl rfl Try.func68 (by kernel_rfl) rfl #[.string a0_0] rfl (by (try simp only [List.map_toArray, List.map_cons, List.map_nil]); first | done | rfl | (simp only [List.length_drop, List.length_take]; rfl)) ?_; (with_reducible refine (ident_Is.calls a0_0 false _ A14.out).mono ?_); rintro e w22 ⟨rfl, hb⟩; refine ⟨_, rfl, ?_⟩; replace BK131 := Aside0.mk (blk_below (bS BK131.out) hb); replace HB := Aside0.mk (below_step (hS HB.out) hb); (try clear hb); (try clear hb2); (try clear hk); (try clear hi)))
   go_ret
   exact ⟨by first | rfl | (simp [errW_none, errW_some] <;> rfl) | (simp [*, errW_none, errW_some] <;> rfl), by repeat (first | (with_reducible first | exact HB.out | apply below_alloc | apply pw_below_drewN | apply below_drew1 | refine below_set ?_ GE131.out) | exact HB.out)⟩

end Go.Proofs.Ytmigglldahkngaa.PA
end

section
-- Written by a program of this session (wip/tools/xprint.py), which drives the kit's print.
namespace Go.Proofs.Ytmigglldahkngaa.PA
open Go.RowKit Go.Proofs.YtmigglldahkngaaW.PrintWords Go.Proofs.YtmigglldahkngaaW.PrintLast Go.Proofs.YtmigglldahkngaaW.PrintMore
attribute [local go_sem] max2_int min2_int max_two min_two   -- for this text's walks alone
set_option linter.unusedVariables false
set_option linter.unusedSimpArgs false

/-! ### varint_Put: function 99 -/
def varint_Put.l0 : Nat → Int → List Int → Option (ByteArray)
 | 0, _, _ => none
 | k + 1, x0, x3 => if x0 ≥ 128 then (if x3.length < 140737488355328 then (varint_Put.l0 k (x0 / 128) (x3 ++ [Go.bits .or .u8 ((x0) % 256) 128])) else (none)) else (if x3.length < 140737488355328 then (some (strOfNums (x3 ++ [(x0) % 256]))) else (none))
def varint_Put.f (k : Nat) (a0 : Int) : Option (ByteArray) := varint_Put.l0 k a0 ([] : List Int)
set_option maxHeartbeats 8000000 in
set_option maxRecDepth 100000 in
theorem varint_Put.calls (k : Nat) (a0 : Int) (r : ByteArray) (w : World) (h : varint_Put.f k a0 = some r) :
  Calls Try.prog 99 #[.int .u64 a0] w fun e w' => e = .returned (.string r) ∧ Below w.heap.size w w' := by
 have HB := Aside0.mk (Below.refl w.heap.size w)
 have H : (varint_Put.l0 k a0 ([] : List Int)) = some r := h
 clear h
 have H' := Aside0.mk H
 clear H
 go_enter Try.func99, Try.ntmps99
 go_wp2
 go_loopg [0, 3] k (fun kq v0 v3 w' => ∃ (x0_1 : Int) (x3_1 : List Int), v0 = .int .u64 x0_1 ∧ Aside0 (varint_Put.l0 kq x0_1 x3_1 = some r) ∧ Aside0 (kq ≤ k) ∧ Aside0 (Kd.R (Kd.int .u8) 5 w' w.heap.size (fun _ => True) v3 x3_1) ∧ Aside0 (Below w.heap.size w w'))
 case atStart => exact ⟨(a0), (([] : List Int)), (by first | rfl | (simp; done) | (simp [*]; done)), H', ⟨Nat.le_refl _⟩, ⟨by first | exact Kd.R_nil _ _ _ _ _ | exact Kd.N_nil _ _ _ _ _ | exact Kd.V_nil _ _ _ _ _ | exact Kd.Q_nil _ _ _ _ _ | exact Kd.S_nil _ _ _ _ _⟩, ⟨by repeat (first | (with_reducible first | exact HB.out | apply below_alloc | apply pw_below_drewN | apply below_drew1) | exact HB.out)⟩⟩
 case round =>
  clear H'
  obtain ⟨x0_1, x3_1, rfl, HA, HK1, HO_3, HB⟩ := hrel
  cases gk with
  | zero => exact absurd HA.out (by simp [varint_Put.l0])
  | succ k1 =>
   have H := HA.out
   clear HA
   simp only [varint_Put.l0] at H
   by_cases c2 : x0_1 ≥ 128
   ·rw [if_pos c2] at H
    have c2b0 : decide (128 ≤ x0_1) = true := decide_eq_true c2
    clear c2
    by_cases c3 : x3_1.length < 140737488355328
    ·rw [if_pos c3] at H
     have LMc3 := Aside0.mk c3
     clear c3
     obtain ⟨y455, hy455⟩ : ∃ y_ : List Int, y_ = (x3_1 ++ [Go.bits .or .u8 ((x0_1) % 256) 128]) := ⟨_, rfl⟩
     replace H : (varint_Put.l0 k1 (x0_1 / 128) y455) = some r := by first | (rw [hy455]; with_reducible exact H) | (have H2_ := (Option.bind_some _ _).symm.trans H; rw [hy455]; with_reducible exact H2_) | (have H2_ := (Option.bind_some _ _).symm.trans H; with_reducible exact H2_) | with_reducible exact H | (rw [hy455]; exact H) | exact H
     have Ny455 := Aside0.mk hy455
     clear hy455
     have H' := Aside0.mk H
     clear H
     go_wp2_with (first | ((with_reducible refine gate_builtin (b := .append) (xs := #[.tmp 8, .tmp 12]) rfl ?_); at_builtin; refine Kd.R_append (Kd.int .u8) (w0 := w) w.heap.size rfl (.tmp 8) (.tmp 12) 119 5 (.int .u8 0) 1 rfl Try.underlying119 info5 rfl (by decide) (by omega) u3 x3_1 (Go.bits .or .u8 ((x0_1) % 256) 128) [.int .u8 (Go.bits .or .u8 ((x0_1) % 256) 128)] (fun _ => True) (fun _ => False) rfl rfl ?aP (fun _ hk => hk.elim) ?aF ?aO ?aB ?aS ?aL ?_; (case aP => exact rfl); (case aB => exact (hS HB.out)); (case aF => exact (fun _ _ => trivial)); (case aO => exact (rS HO_3.out)); (case aS => exact (below_size (hS HB.out))); (case aL => have := LMc3.out; omega); intro v456 w4 ho hb hg hat; rw [← Ny455.out] at ho; replace HB := Aside0.mk (hb); have HO457 := Aside0.mk (ho); clear HO_3; clear ho hb hg hat))
     go_roundg k1
     case measure => have := HK1.out; omega
     case rel => exact ⟨(x0_1 / 128), (y455), (by first | rfl | (simp; done) | (simp [*]; done)), H', ⟨by have := HK1.out; omega⟩, ⟨rS HO457.out⟩, ⟨by repeat (first | (with_reducible first | exact HB.out | apply below_alloc | apply pw_below_drewN | apply below_drew1) | exact HB.out)⟩⟩
    ·rw [if_neg c3] at H
     exact absurd H (by simp)
   ·rw [if_neg c2] at H
    have c2b0 : decide (128 ≤ x0_1) = false := decide_eq_false c2
    clear c2
    by_cases c5 : x3_1.length < 140737488355328
    ·rw [if_pos c5] at H
     have LMc5 := Aside0.mk c5
     clear c5
     obtain ⟨y458, hy458⟩ : ∃ y_ : List Int, y_ = (x3_1 ++ [(x0_1) % 256]) := ⟨_, rfl⟩
     replace H : (some (strOfNums y458)) = some r := by first | (rw [hy458]; with_reducible exact H) | (have H2_ := (Option.bind_some _ _).symm.trans H; rw [hy458]; with_reducible exact H2_) | (have H2_ := (Option.bind_some _ _).symm.trans H; with_reducible exact H2_) | with_reducible exact H | (rw [hy458]; exact H) | exact H
     have Ny458 := Aside0.mk hy458
     clear hy458
     obtain rfl := Option.some.inj H
     go_wp2_with (first | ((with_reducible refine gate_builtin (b := .append) (xs := #[.tmp 14, .tmp 17]) rfl ?_); at_builtin; refine Kd.R_append (Kd.int .u8) (w0 := w) w.heap.size rfl (.tmp 14) (.tmp 17) 119 5 (.int .u8 0) 1 rfl Try.underlying119 info5 rfl (by decide) (by omega) u3 x3_1 ((x0_1) % 256) [.int .u8 ((x0_1) % 256)] (fun _ => True) (fun _ => False) rfl rfl ?aP (fun _ hk => hk.elim) ?aF ?aO ?aB ?aS ?aL ?_; (case aP => exact rfl); (case aB => exact (hS HB.out)); (case aF => exact (fun _ _ => trivial)); (case aO => exact (rS HO_3.out)); (case aS => exact (below_size (hS HB.out))); (case aL => have := LMc5.out; omega); intro v459 w6 ho hb hg hat; rw [← Ny458.out] at ho; replace HB := Aside0.mk (hb); have HO460 := Aside0.mk (ho); clear HO_3; clear ho hb hg hat; have hcv7 := own_string (P := Try.prog) Try.underlying119 Try.underlying5 Try.underlying9 (Kd.own_of_R HO460.out)))
     go_ret
     exact ⟨by first | rfl | (simp [errW_none, errW_some] <;> rfl) | (simp [*, errW_none, errW_some] <;> rfl), by repeat (first | (with_reducible first | exact HB.out | apply below_alloc | apply pw_below_drewN | apply below_drew1) | exact HB.out)⟩
    ·rw [if_neg c5] at H
     exact absurd H (by simp)

/-! ### varint_Text: function 105 -/
def varint_Text.f (k : Nat) (a0 : ByteArray) : Option (ByteArray) := (varint_Put.f k (IntKind.u64.wrap ((a0.size : Int)))).bind fun t461 => (if t461.size + a0.size ≤ 9223372036854775807 then (some (t461 ++ a0)) else (none))
set_option maxHeartbeats 8000000 in
set_option maxRecDepth 100000 in
theorem varint_Text.calls (k : Nat) (a0 : ByteArray) (r : ByteArray) (w : World) (h : varint_Text.f k a0 = some r) :
  Calls Try.prog 105 #[.string a0] w fun e w' => e = .returned (.string r) ∧ Below w.heap.size w w' := by
 have HB := Aside0.mk (Below.refl w.heap.size w)
 have H : ((varint_Put.f k (IntKind.u64.wrap ((a0.size : Int)))).bind fun t461 => (if t461.size + a0.size ≤ 9223372036854775807 then (some (t461 ++ a0)) else (none))) = some r := h
 clear h
 replace H := Option.bind_eq_some_iff.mp H
 obtain ⟨t461, A20, H⟩ := H
 replace H : (if t461.size + a0.size ≤ 9223372036854775807 then (some (t461 ++ a0)) else (none)) = some r := H
 have A2 := Aside0.mk A20
 clear A20
 by_cases c3 : t461.size + a0.size ≤ 9223372036854775807
 ·rw [if_pos c3] at H
  have c3b0 := eq_true c3
  have c3b1 : decide (t461.size + a0.size ≤ 9223372036854775807) = true := decide_eq_true c3
  try have c3b2 : (9223372036854775807 < t461.size + a0.size) = False := eq_false (Nat.not_lt.2 c3)
  (try (have c3b3 := c3b0; simp only [ByteArray.size_append] at c3b3))
  (try (have c3b4 := c3b2; simp only [ByteArray.size_append] at c3b4))
  clear c3
  obtain rfl := Option.some.inj H
  go_enter Try.func105, Try.ntmps105
  go_wp2_with (first | ((with_reducible refine gate_callee (f := 99) rfl ?_); refine goesL_ (some 6) rfl rfl Try.func99 (by kernel_rfl) rfl #[.int .u64 (IntKind.u64.wrap ((a0.size : Int)))] rfl (by (try simp only [List.map_toArray, List.map_cons, List.map_nil]); first | done | rfl | (simp only [List.length_drop, List.length_take]; rfl)) ?_; (with_reducible refine (varint_Put.calls k (IntKind.u64.wrap ((a0.size : Int))) t461 _ A2.out).mono ?_); rintro e w4 ⟨rfl, hb⟩; refine ⟨_, rfl, ?_⟩; replace HB := Aside0.mk (below_step (hS HB.out) hb); (try clear hb); (try clear hb2); (try clear hk); (try clear hi)))
  go_ret
  exact ⟨by first | rfl | (simp [errW_none, errW_some] <;> rfl) | (simp [*, errW_none, errW_some] <;> rfl), by repeat (first | (with_reducible first | exact HB.out | apply below_alloc | apply pw_below_drewN | apply below_drew1) | exact HB.out)⟩
 ·rw [if_neg c3] at H
  exact absurd H (by simp)

/-! ### ident_Put: function 100 -/
def ident_Put.f (k : Nat) (a0 : ByteArray) : Option (ByteArray × Bool) := (ident_Is.f a0).bind fun t462 => (if t462 = true then ((varint_Text.f k a0).bind fun t463 => (some (t463, true))) else (some ((⟨#[]⟩ : ByteArray), false)))
set_option maxHeartbeats 8000000 in
set_option maxRecDepth 100000 in
theorem ident_Put.calls (k : Nat) (a0 : ByteArray) (r1 : ByteArray) (r2 : Bool) (w : World) (h : ident_Put.f k a0 = some (r1, r2)) :
  Calls Try.prog 100 #[.string a0] w fun e w' => e = .returned (.tuple #[.string r1, .bool r2]) ∧ Below w.heap.size w w' := by
 have HB := Aside0.mk (Below.refl w.heap.size w)
 have H : ((ident_Is.f a0).bind fun t462 => (if t462 = true then ((varint_Text.f k a0).bind fun t463 => (some (t463, true))) else (some ((⟨#[]⟩ : ByteArray), false)))) = some (r1, r2) := h
 clear h
 replace H := Option.bind_eq_some_iff.mp H
 obtain ⟨t462, A20, H⟩ := H
 replace H : (if t462 = true then ((varint_Text.f k a0).bind fun t463 => (some (t463, true))) else (some ((⟨#[]⟩ : ByteArray), false))) = some (r1, r2) := H
 have A2 := Aside0.mk A20
 clear A20
 by_cases c3 : t462 = true
 ·subst c3
  have H1 : ((varint_Text.f k a0).bind fun t463 => (some (t463, true))) = some (r1, r2) := by rw [if_pos rfl] at H; exact H
  clear H
  have H := H1
  clear H1
  replace H := Option.bind_eq_some_iff.mp H
  obtain ⟨t463, A40, H⟩ := H
  replace H : (some (t463, true)) = some (r1, r2) := H
  have A4 := Aside0.mk A40
  clear A40
  simp only [Option.some.injEq, Prod.mk.injEq] at H
  obtain ⟨rfl, rfl⟩ := H
  go_enter Try.func100, Try.ntmps100
  go_wp2_with (first | ((with_reducible refine gate_callee (f := 68) rfl ?_); refine goesL_ (some 5) rfl rfl Try.func68 (by kernel_rfl) rfl #[.string a0] rfl (by (try simp only [List.map_toArray, List.map_cons, List.map_nil]); first | done | rfl | (simp only [List.length_drop, List.length_take]; rfl)) ?_; (with_reducible refine (ident_Is.calls a0 true _ A2.out).mono ?_); rintro e w5 ⟨rfl, hb⟩; refine ⟨_, rfl, ?_⟩; replace HB := Aside0.mk (below_step (hS HB.out) hb); (try clear hb); (try clear hb2); (try clear hk); (try clear hi)) | ((with_reducible refine gate_callee (f := 105) rfl ?_); refine goesL_ (some 8) rfl rfl Try.func105 (by kernel_rfl) rfl #[.string a0] rfl (by (try simp only [List.map_toArray, List.map_cons, List.map_nil]); first | done | rfl | (simp only [List.length_drop, List.length_take]; rfl)) ?_; (with_reducible refine (varint_Text.calls k a0 t463 _ A4.out).mono ?_); rintro e w6 ⟨rfl, hb⟩; refine ⟨_, rfl, ?_⟩; replace HB := Aside0.mk (below_step (hS HB.out) hb); (try clear hb); (try clear hb2); (try clear hk); (try clear hi)))
  go_ret2
  exact ⟨by first | rfl | (simp [errW_none, errW_some] <;> rfl) | (simp [*, errW_none, errW_some] <;> rfl), by repeat (first | (with_reducible first | exact HB.out | apply below_alloc | apply pw_below_drewN | apply below_drew1) | exact HB.out)⟩
 ·replace c3 := Bool.eq_false_iff.mpr c3
  subst c3
  have H1 : (some ((⟨#[]⟩ : ByteArray), false)) = some (r1, r2) := by rw [if_neg (show ¬ (false = true) by decide)] at H; exact H
  clear H
  have H := H1
  clear H1
  simp only [Option.some.injEq, Prod.mk.injEq] at H
  obtain ⟨rfl, rfl⟩ := H
  go_enter Try.func100, Try.ntmps100
  go_wp2_with (first | ((with_reducible refine gate_callee (f := 68) rfl ?_); refine goesL_ (some 5) rfl rfl Try.func68 (by kernel_rfl) rfl #[.string a0] rfl (by (try simp only [List.map_toArray, List.map_cons, List.map_nil]); first | done | rfl | (simp only [List.length_drop, List.length_take]; rfl)) ?_; (with_reducible refine (ident_Is.calls a0 false _ A2.out).mono ?_); rintro e w7 ⟨rfl, hb⟩; refine ⟨_, rfl, ?_⟩; replace HB := Aside0.mk (below_step (hS HB.out) hb); (try clear hb); (try clear hb2); (try clear hk); (try clear hi)))
  go_ret2
  exact ⟨by first | rfl | (simp [errW_none, errW_some] <;> rfl) | (simp [*, errW_none, errW_some] <;> rfl), by repeat (first | (with_reducible first | exact HB.out | apply below_alloc | apply pw_below_drewN | apply below_drew1) | exact HB.out)⟩

/-! ### value_Put: function 101 -/
def value_Put.f (k : Nat) (a0_0 : Int) (a0_1 : Int) (a0_2 : Int) (a0_3 : ByteArray) : Option (ByteArray × Bool) := (value_May.f a0_0 a0_1 a0_2 a0_3).bind fun t465 => (if t465 = true then ((some (([(a0_0) % 256, (wrap64 (a0_1 - (-128))) % 256] : List Int) : List Int)).bind fun y466 => ((varint_Put.f k (IntKind.u64.wrap (a0_2))).bind fun t469 => (if (strOfNums y466).size + t469.size ≤ 9223372036854775807 then ((varint_Text.f k a0_3).bind fun t470 => (if ((strOfNums y466) ++ t469).size + t470.size ≤ 9223372036854775807 then (some (((strOfNums y466) ++ t469) ++ t470, true)) else (none))) else (none)))) else (some ((⟨#[]⟩ : ByteArray), false)))
def value_Put.T3 : Bool × List (List Nat × List Nat) := (true, [([], []), ([0], [0]), ([1], [1]), ([], []), ([3], [3]), ([4], [4]), ([5], [5]), ([2, 6], [2, 6]), ([7], [7]), ([], []), ([9], [9]), ([10], [10]), ([11], [11]), ([8, 12], [8, 12]), ([], []), ([14], [14]), ([15, 12], [15]), ([13, 16], [13, 16]), ([17, 16, 0, 1, 2, 3, 4, 5, 6, 7, 8, 9, 10, 11, 12, 13, 14, 15, 16, 17], [17]), ([18, 0, 1, 2, 3, 4, 5, 6, 7, 8, 9, 10, 11, 12, 13, 14, 15, 16, 17, 18], [])])
def value_Put.B3 : List Nat := [0, 1, 3, 0, 8, 24, 56, 127, 255, 0, 512, 1536, 3584, 8191, 0, 16384, 56832, 131071, 262143, 524287]
theorem value_Put.tab3 : rtab .any (opsOf Try.f101 3) = value_Put.T3 := by kernel_rfl
theorem value_Put.bits3 : waitsOk value_Put.T3.2 value_Put.B3 = true := by kernel_rfl
set_option maxHeartbeats 8000000 in
set_option maxRecDepth 100000 in
theorem value_Put.calls (k : Nat) (a0_0 : Int) (a0_1 : Int) (a0_2 : Int) (a0_3 : ByteArray) (r1 : ByteArray) (r2 : Bool) (w : World) (h : value_Put.f k a0_0 a0_1 a0_2 a0_3 = some (r1, r2)) :
  Calls Try.prog 101 #[.agg #[.int .i64 a0_0, .int .i64 a0_1, .int .i64 a0_2, .string a0_3]] w fun e w' => e = .returned (.tuple #[.string r1, .bool r2]) ∧ Below w.heap.size w w' := by
 have hu32 := Try.underlying32
 have HB := Aside0.mk (Below.refl w.heap.size w)
 have H : ((value_May.f a0_0 a0_1 a0_2 a0_3).bind fun t465 => (if t465 = true then ((some (([(a0_0) % 256, (wrap64 (a0_1 - (-128))) % 256] : List Int) : List Int)).bind fun y466 => ((varint_Put.f k (IntKind.u64.wrap (a0_2))).bind fun t469 => (if (strOfNums y466).size + t469.size ≤ 9223372036854775807 then ((varint_Text.f k a0_3).bind fun t470 => (if ((strOfNums y466) ++ t469).size + t470.size ≤ 9223372036854775807 then (some (((strOfNums y466) ++ t469) ++ t470, true)) else (none))) else (none)))) else (some ((⟨#[]⟩ : ByteArray), false)))) = some (r1, r2) := h
 clear h
 replace H := Option.bind_eq_some_iff.mp H
 obtain ⟨t465, A20, H⟩ := H
 replace H : (if t465 = true then ((some (([(a0_0) % 256, (wrap64 (a0_1 - (-128))) % 256] : List Int) : List Int)).bind fun y466 => ((varint_Put.f k (IntKind.u64.wrap (a0_2))).bind fun t469 => (if (strOfNums y466).size + t469.size ≤ 9223372036854775807 then ((varint_Text.f k a0_3).bind fun t470 => (if ((strOfNums y466) ++ t469).size + t470.size ≤ 9223372036854775807 then (some (((strOfNums y466) ++ t469) ++ t470, true)) else (none))) else (none)))) else (some ((⟨#[]⟩ : ByteArray), false))) = some (r1, r2) := H
 have A2 := Aside0.mk A20
 clear A20
 by_cases c3 : t465 = true
 ·subst c3
  have H1 : ((some (([(a0_0) % 256, (wrap64 (a0_1 - (-128))) % 256] : List Int) : List Int)).bind fun y466 => ((varint_Put.f k (IntKind.u64.wrap (a0_2))).bind fun t469 => (if (strOfNums y466).size + t469.size ≤ 9223372036854775807 then ((varint_Text.f k a0_3).bind fun t470 => (if ((strOfNums y466) ++ t469).size + t470.size ≤ 9223372036854775807 then (some (((strOfNums y466) ++ t469) ++ t470, true)) else (none))) else (none)))) = some (r1, r2) := by rw [if_pos rfl] at H; exact H
  clear H
  have H := H1
  clear H1
  obtain ⟨y466, hy466⟩ : ∃ y_ : List Int, y_ = (([(a0_0) % 256, (wrap64 (a0_1 - (-128))) % 256] : List Int)) := ⟨_, rfl⟩
  replace H : ((varint_Put.f k (IntKind.u64.wrap (a0_2))).bind fun t469 => (if (strOfNums y466).size + t469.size ≤ 9223372036854775807 then ((varint_Text.f k a0_3).bind fun t470 => (if ((strOfNums y466) ++ t469).size + t470.size ≤ 9223372036854775807 then (some (((strOfNums y466) ++ t469) ++ t470, true)) else (none))) else (none))) = some (r1, r2) := by first | (rw [hy466]; with_reducible exact H) | (have H2_ := (Option.bind_some _ _).symm.trans H; rw [hy466]; with_reducible exact H2_) | (have H2_ := (Option.bind_some _ _).symm.trans H; with_reducible exact H2_) | with_reducible exact H | (rw [hy466]; exact H) | exact H
  have Ny466 := Aside0.mk hy466
  clear hy466
  replace H := Option.bind_eq_some_iff.mp H
  obtain ⟨t469, A40, H⟩ := H
  replace H : (if (strOfNums y466).size + t469.size ≤ 9223372036854775807 then ((varint_Text.f k a0_3).bind fun t470 => (if ((strOfNums y466) ++ t469).size + t470.size ≤ 9223372036854775807 then (some (((strOfNums y466) ++ t469) ++ t470, true)) else (none))) else (none)) = some (r1, r2) := H
  have A4 := Aside0.mk A40
  clear A40
  by_cases c5 : (strOfNums y466).size + t469.size ≤ 9223372036854775807
  ·rw [if_pos c5] at H
   have c5b0 := eq_true c5
   have c5b1 : decide ((strOfNums y466).size + t469.size ≤ 9223372036854775807) = true := decide_eq_true c5
   try have c5b2 : (9223372036854775807 < (strOfNums y466).size + t469.size) = False := eq_false (Nat.not_lt.2 c5)
   (try (have c5b3 := c5b0; simp only [ByteArray.size_append] at c5b3))
   (try (have c5b4 := c5b2; simp only [ByteArray.size_append] at c5b4))
   clear c5
   replace H := Option.bind_eq_some_iff.mp H
   obtain ⟨t470, A60, H⟩ := H
   replace H : (if ((strOfNums y466) ++ t469).size + t470.size ≤ 9223372036854775807 then (some (((strOfNums y466) ++ t469) ++ t470, true)) else (none)) = some (r1, r2) := H
   have A6 := Aside0.mk A60
   clear A60
   by_cases c7 : ((strOfNums y466) ++ t469).size + t470.size ≤ 9223372036854775807
   ·rw [if_pos c7] at H
    have c7b0 := eq_true c7
    have c7b1 : decide (((strOfNums y466) ++ t469).size + t470.size ≤ 9223372036854775807) = true := decide_eq_true c7
    try have c7b2 : (9223372036854775807 < ((strOfNums y466) ++ t469).size + t470.size) = False := eq_false (Nat.not_lt.2 c7)
    (try (have c7b3 := c7b0; simp only [ByteArray.size_append] at c7b3))
    (try (have c7b4 := c7b2; simp only [ByteArray.size_append] at c7b4))
    clear c7
    simp only [Option.some.injEq, Prod.mk.injEq] at H
    obtain ⟨rfl, rfl⟩ := H
    go_enter Try.func101, Try.ntmps101
    try go_wp2_with (first | ((with_reducible refine gate_dst (N := 1) rfl ?_); refine box_event ?hg (N := 1) ?hd (cs := #[.int .i64 a0_0, .int .i64 a0_1, .int .i64 a0_2, .string a0_3]) (t := 32) ?hr ?_; (case hd => rfl); (case hg => rfl); (case hr => first | (go_simp; done) | (go_simp; rfl)); intro gb464 hg w8 hbox hb; have BK464 := Aside0.mk (hbox); have GW464 := Aside0.mk ((by rw [hg]; exact (below_size (hS HB.out)) : w.heap.size ≤ gb464)); have GE464 := Aside0.mk ((by rw [hg]; exact (below_size (hS HB.out)) : w.heap.size ≤ gb464)); replace HB := Aside0.mk (below_step (hS HB.out) hb); clear hb hbox hg; have hcz9_0 : w8.cell? ⟨gb464, 0, none⟩ = some (.int .i64 a0_0) := (blk_cell BK464.out 0).trans rfl; have hcz9_1 : w8.cell? ⟨gb464, 1, none⟩ = some (.int .i64 a0_1) := (blk_cell BK464.out 1).trans rfl; have hcz9_2 : w8.cell? ⟨gb464, 2, none⟩ = some (.int .i64 a0_2) := (blk_cell BK464.out 2).trans rfl; have hcz9_3 : w8.cell? ⟨gb464, 3, none⟩ = some (.string a0_3) := (blk_cell BK464.out 3).trans rfl; have hfz9_0 := blk_frozen BK464.out 0; have hfz9_1 := blk_frozen BK464.out 1; have hfz9_2 := blk_frozen BK464.out 2; have hfz9_3 := blk_frozen BK464.out 3) | ((with_reducible refine gate_callee (f := 69) rfl ?_); refine goesL_ (some 5) rfl rfl Try.func69 (by kernel_rfl) rfl #[.agg #[.int .i64 a0_0, .int .i64 a0_1, .int .i64 a0_2, .string a0_3]] rfl (by (try simp only [List.map_toArray, List.map_cons, List.map_nil]); first | done | rfl | (simp only [List.length_drop, List.length_take]; rfl)) ?_; (with_reducible refine (value_May.calls a0_0 a0_1 a0_2 a0_3 true _ A2.out).mono ?_); rintro e w10 ⟨rfl, hb⟩; refine ⟨_, rfl, ?_⟩; replace BK464 := Aside0.mk (blk_below (bS BK464.out) hb); replace HB := Aside0.mk (below_step (hS HB.out) hb); (try clear hb); (try clear hb2); (try clear hk); (try clear hi)))
    replace BK464 := Aside0.mk (blk_drew BK464.out)
    replace HB := Aside0.mk (below_drew1 HB.out)
    refine start_ (n := 20) (S := fun w' => w'.cell? ⟨gb464, 0, none⟩ = some (.int .i64 a0_0) ∧ w'.cell? ⟨gb464, 1, none⟩ = some (.int .i64 a0_1) ∧ w'.cell? ⟨gb464, 2, none⟩ = some (.int .i64 a0_2) ∧ w'.cell? ⟨gb464, 3, none⟩ = some (.string a0_3)) (ds := []) #[false, false, false, false, false, false, false, false, false, false, false, false, false, false, false, false, false, false, false, false] (by kernel_rfl) rfl rfl ⟨(blk_cell BK464.out 0).trans rfl, (blk_cell BK464.out 1).trans rfl, (blk_cell BK464.out 2).trans rfl, (blk_cell BK464.out 3).trans rfl⟩ (fun hHeld => ?_); refine with_tabW value_Put.tab3 value_Put.bits3 (fun HT_ HW_ => ?_)
    generalize w10.drew = w11 at BK464 HB hHeld ⊢
    refine pure_ (i := 0) (N := some 7) (v := ?_) (a' := ?_) #[true, false, false, false, false, false, false, false, false, false, false, false, false, false, false, false, false, false, false, false] rfl rfl (any_of HT_.out (by kernel_rfl)) (fun _ _ _ h => h) (Or.inl ⟨by rfl, ?_⟩) ?_ ?_
    rotate_left
    ·intro w'
     go_simp
     with_reducible rfl
    rotate_left
    ·simp only [Act.put, List.setIfInBounds_toArray, List.set_cons_zero, List.set_cons_succ, i64_w, i32_w]
     rfl
    refine pure_ (i := 3) (N := some 10) (v := ?_) (a' := ?_) #[true, false, false, true, false, false, false, false, false, false, false, false, false, false, false, false, false, false, false, false] rfl rfl (any_of HT_.out (by kernel_rfl)) (fun _ _ _ h => h) (Or.inl ⟨by rfl, ?_⟩) ?_ ?_
    rotate_left
    ·intro w'
     go_simp
     with_reducible rfl
    rotate_left
    ·simp only [Act.put, List.setIfInBounds_toArray, List.set_cons_zero, List.set_cons_succ, i64_w, i32_w]
     rfl
    refine pure_ (i := 9) (N := some 16) (v := ?_) (a' := ?_) #[true, false, false, true, false, false, false, false, false, true, false, false, false, false, false, false, false, false, false, false] rfl rfl (any_of HT_.out (by kernel_rfl)) (fun _ _ _ h => h) (Or.inl ⟨by rfl, ?_⟩) ?_ ?_
    rotate_left
    ·intro w'
     go_simp
     with_reducible rfl
    rotate_left
    ·simp only [Act.put, List.setIfInBounds_toArray, List.set_cons_zero, List.set_cons_succ, i64_w, i32_w]
     rfl
    refine pure_ (i := 14) (N := some 21) (v := ?_) (a' := ?_) #[true, false, false, true, false, false, false, false, false, true, false, false, false, false, true, false, false, false, false, false] rfl rfl (any_of HT_.out (by kernel_rfl)) (fun _ _ _ h => h) (Or.inl ⟨by rfl, ?_⟩) ?_ ?_
    rotate_left
    ·intro w'
     go_simp
     with_reducible rfl
    rotate_left
    ·simp only [Act.put, List.setIfInBounds_toArray, List.set_cons_zero, List.set_cons_succ, i64_w, i32_w]
     rfl
    refine take_ (i := 1) (N := some 8) (v := ?_) (a' := ?_) #[true, true, false, true, false, false, false, false, false, true, false, false, false, false, true, false, false, false, false, false] rfl rfl (take_ofW HT_.out HW_.out (by kernel_rfl)) (fun _ _ _ h => h) (Or.inl ⟨by rfl, ?_⟩) hHeld ?_ ?_
    rotate_left
    ·rintro w' ⟨s0, s1, s2, s3⟩
     go_simp
     with_reducible rfl
    rotate_left
    ·simp only [Act.put, List.setIfInBounds_toArray, List.set_cons_zero, List.set_cons_succ, i64_w, i32_w]
     rfl
    refine pure_ (i := 2) (N := some 9) (v := ?_) (a' := ?_) #[true, true, true, true, false, false, false, false, false, true, false, false, false, false, true, false, false, false, false, false] rfl rfl (any_of HT_.out (by kernel_rfl)) (fun _ _ _ h => h) (Or.inl ⟨by rfl, ?_⟩) ?_ ?_
    rotate_left
    ·intro w'
     go_simp
     with_reducible rfl
    rotate_left
    ·simp only [Act.put, List.setIfInBounds_toArray, List.set_cons_zero, List.set_cons_succ, i64_w, i32_w]
     rfl
    refine take_ (i := 4) (N := some 11) (v := ?_) (a' := ?_) #[true, true, true, true, true, false, false, false, false, true, false, false, false, false, true, false, false, false, false, false] rfl rfl (take_ofW HT_.out HW_.out (by kernel_rfl)) (fun _ _ _ h => h) (Or.inl ⟨by rfl, ?_⟩) hHeld ?_ ?_
    rotate_left
    ·rintro w' ⟨s0, s1, s2, s3⟩
     go_simp
     with_reducible rfl
    rotate_left
    ·simp only [Act.put, List.setIfInBounds_toArray, List.set_cons_zero, List.set_cons_succ, i64_w, i32_w]
     rfl
    refine pure_ (i := 5) (N := some 12) (v := ?_) (a' := ?_) #[true, true, true, true, true, true, false, false, false, true, false, false, false, false, true, false, false, false, false, false] rfl rfl (any_of HT_.out (by kernel_rfl)) (fun _ _ _ h => h) (Or.inl ⟨by rfl, ?_⟩) ?_ ?_
    rotate_left
    ·intro w'
     go_simp
     with_reducible rfl
    rotate_left
    ·simp only [Act.put, List.setIfInBounds_toArray, List.set_cons_zero, List.set_cons_succ, i64_w, i32_w]
     rfl
    refine pure_ (i := 6) (N := some 13) (v := ?_) (a' := ?_) #[true, true, true, true, true, true, true, false, false, true, false, false, false, false, true, false, false, false, false, false] rfl rfl (any_of HT_.out (by kernel_rfl)) (fun _ _ _ h => h) (Or.inl ⟨by rfl, ?_⟩) ?_ ?_
    rotate_left
    ·intro w'
     go_simp
     with_reducible rfl
    rotate_left
    ·simp only [Act.put, List.setIfInBounds_toArray, List.set_cons_zero, List.set_cons_succ, i64_w, i32_w]
     rfl
    refine take_ (i := 10) (N := some 17) (v := ?_) (a' := ?_) #[true, true, true, true, true, true, true, false, false, true, true, false, false, false, true, false, false, false, false, false] rfl rfl (take_ofW HT_.out HW_.out (by kernel_rfl)) (fun _ _ _ h => h) (Or.inl ⟨by rfl, ?_⟩) hHeld ?_ ?_
    rotate_left
    ·rintro w' ⟨s0, s1, s2, s3⟩
     go_simp
     with_reducible rfl
    rotate_left
    ·simp only [Act.put, List.setIfInBounds_toArray, List.set_cons_zero, List.set_cons_succ, i64_w, i32_w]
     rfl
    refine pure_ (i := 11) (N := some 18) (v := ?_) (a' := ?_) #[true, true, true, true, true, true, true, false, false, true, true, true, false, false, true, false, false, false, false, false] rfl rfl (any_of HT_.out (by kernel_rfl)) (fun _ _ _ h => h) (Or.inl ⟨by rfl, ?_⟩) ?_ ?_
    rotate_left
    ·intro w'
     go_simp
     with_reducible rfl
    rotate_left
    ·simp only [Act.put, List.setIfInBounds_toArray, List.set_cons_zero, List.set_cons_succ, i64_w, i32_w]
     rfl
    refine take_ (i := 15) (N := some 22) (v := ?_) (a' := ?_) #[true, true, true, true, true, true, true, false, false, true, true, true, false, false, true, true, false, false, false, false] rfl rfl (take_ofW HT_.out HW_.out (by kernel_rfl)) (fun _ _ _ h => h) (Or.inl ⟨by rfl, ?_⟩) hHeld ?_ ?_
    rotate_left
    ·rintro w' ⟨s0, s1, s2, s3⟩
     go_simp
     with_reducible rfl
    rotate_left
    ·simp only [Act.put, List.setIfInBounds_toArray, List.set_cons_zero, List.set_cons_succ, i64_w, i32_w]
     rfl
    refine join_ (σ := Value) 3 #[true, true, true, true, true, true, true, true, true, true, true, true, true, true, true, true, true, false, false, false] (fun s_ => [(14, s_), (15, .string (strOfNums y466)), (19, .string t469), (23, .string t470), (20, .string ((strOfNums y466) ++ t469))]) (fun s_ w' => (w'.cell? ⟨gb464, 0, none⟩ = some (.int .i64 a0_0) ∧ w'.cell? ⟨gb464, 1, none⟩ = some (.int .i64 a0_1) ∧ w'.cell? ⟨gb464, 2, none⟩ = some (.int .i64 a0_2) ∧ w'.cell? ⟨gb464, 3, none⟩ = some (.string a0_3)) ∧ (Kd.R (Kd.int .u8) 5 w' w.heap.size (fun _ => True) s_ y466) ∧ (w'.heap[gb464]? = some (.cells #[.int .i64 a0_0, .int .i64 a0_1, .int .i64 a0_2, .string a0_3] 32 (0, 0))) ∧ (Below w.heap.size w w')) ?_ ?_
    rotate_left
    ·intro hJ7_8_12_16
     refine join_ (σ := Value) 4 #[true, true, true, true, true, true, true, true, true, true, true, true, true, true, true, true, false, false, false, false] (fun s_ => [(14, s_), (15, .string (strOfNums y466)), (19, .string t469), (20, .string ((strOfNums y466) ++ t469))]) (fun s_ w' => (w'.cell? ⟨gb464, 0, none⟩ = some (.int .i64 a0_0) ∧ w'.cell? ⟨gb464, 1, none⟩ = some (.int .i64 a0_1) ∧ w'.cell? ⟨gb464, 2, none⟩ = some (.int .i64 a0_2) ∧ w'.cell? ⟨gb464, 3, none⟩ = some (.string a0_3)) ∧ (Kd.R (Kd.int .u8) 5 w' w.heap.size (fun _ => True) s_ y466) ∧ (w'.heap[gb464]? = some (.cells #[.int .i64 a0_0, .int .i64 a0_1, .int .i64 a0_2, .string a0_3] 32 (0, 0))) ∧ (Below w.heap.size w w')) ?_ ?_
     rotate_left
     ·intro hJ7_8_12
      refine join_ (σ := Value) 5 #[true, true, true, true, true, true, true, true, false, true, true, true, true, false, true, true, true, false, false, false] (fun s_ => [(14, s_), (19, .string t469), (23, .string t470)]) (fun s_ w' => (w'.cell? ⟨gb464, 0, none⟩ = some (.int .i64 a0_0) ∧ w'.cell? ⟨gb464, 1, none⟩ = some (.int .i64 a0_1) ∧ w'.cell? ⟨gb464, 2, none⟩ = some (.int .i64 a0_2) ∧ w'.cell? ⟨gb464, 3, none⟩ = some (.string a0_3)) ∧ (Kd.R (Kd.int .u8) 5 w' w.heap.size (fun _ => True) s_ y466) ∧ (w'.heap[gb464]? = some (.cells #[.int .i64 a0_0, .int .i64 a0_1, .int .i64 a0_2, .string a0_3] 32 (0, 0))) ∧ (Below w.heap.size w w')) ?_ ?_
      rotate_left
      ·intro hJ7_12_16
       refine join_ (σ := Value) 6 #[true, true, true, true, true, true, true, true, true, true, true, true, false, false, true, true, false, false, false, false] (fun s_ => [(14, s_), (15, .string (strOfNums y466))]) (fun s_ w' => (w'.cell? ⟨gb464, 0, none⟩ = some (.int .i64 a0_0) ∧ w'.cell? ⟨gb464, 1, none⟩ = some (.int .i64 a0_1) ∧ w'.cell? ⟨gb464, 2, none⟩ = some (.int .i64 a0_2) ∧ w'.cell? ⟨gb464, 3, none⟩ = some (.string a0_3)) ∧ (Kd.R (Kd.int .u8) 5 w' w.heap.size (fun _ => True) s_ y466) ∧ (w'.heap[gb464]? = some (.cells #[.int .i64 a0_0, .int .i64 a0_1, .int .i64 a0_2, .string a0_3] 32 (0, 0))) ∧ (Below w.heap.size w w')) ?_ ?_
       rotate_left
       ·intro hJ7_8
        refine join_ (σ := Value) 6 #[true, true, true, true, true, true, true, true, false, true, true, true, true, false, true, true, false, false, false, false] (fun s_ => [(14, s_), (19, .string t469)]) (fun s_ w' => (w'.cell? ⟨gb464, 0, none⟩ = some (.int .i64 a0_0) ∧ w'.cell? ⟨gb464, 1, none⟩ = some (.int .i64 a0_1) ∧ w'.cell? ⟨gb464, 2, none⟩ = some (.int .i64 a0_2) ∧ w'.cell? ⟨gb464, 3, none⟩ = some (.string a0_3)) ∧ (Kd.R (Kd.int .u8) 5 w' w.heap.size (fun _ => True) s_ y466) ∧ (w'.heap[gb464]? = some (.cells #[.int .i64 a0_0, .int .i64 a0_1, .int .i64 a0_2, .string a0_3] 32 (0, 0))) ∧ (Below w.heap.size w w')) ?_ ?_
        rotate_left
        ·intro hJ7_12
         refine join_ (σ := Unit) 6 #[true, true, true, true, true, true, true, false, false, true, true, true, true, false, true, true, true, false, false, false] (fun s_ => [(19, .string t469), (23, .string t470)]) (fun s_ w' => (w'.cell? ⟨gb464, 0, none⟩ = some (.int .i64 a0_0) ∧ w'.cell? ⟨gb464, 1, none⟩ = some (.int .i64 a0_1) ∧ w'.cell? ⟨gb464, 2, none⟩ = some (.int .i64 a0_2) ∧ w'.cell? ⟨gb464, 3, none⟩ = some (.string a0_3)) ∧ (w'.heap[gb464]? = some (.cells #[.int .i64 a0_0, .int .i64 a0_1, .int .i64 a0_2, .string a0_3] 32 (0, 0))) ∧ (Below w.heap.size w w')) ?_ ?_
         rotate_left
         ·intro hJ12_16
          refine join_ (σ := Value) 7 #[true, true, true, true, true, true, true, true, false, true, true, true, false, false, true, true, false, false, false, false] (fun s_ => [(14, s_)]) (fun s_ w' => (w'.cell? ⟨gb464, 0, none⟩ = some (.int .i64 a0_0) ∧ w'.cell? ⟨gb464, 1, none⟩ = some (.int .i64 a0_1) ∧ w'.cell? ⟨gb464, 2, none⟩ = some (.int .i64 a0_2) ∧ w'.cell? ⟨gb464, 3, none⟩ = some (.string a0_3)) ∧ (Kd.R (Kd.int .u8) 5 w' w.heap.size (fun _ => True) s_ y466) ∧ (w'.heap[gb464]? = some (.cells #[.int .i64 a0_0, .int .i64 a0_1, .int .i64 a0_2, .string a0_3] 32 (0, 0))) ∧ (Below w.heap.size w w')) ?_ ?_
          rotate_left
          ·intro hJ7
           refine join_ (σ := Unit) 7 #[true, true, true, true, true, true, true, false, false, true, true, true, true, false, true, true, false, false, false, false] (fun s_ => [(19, .string t469)]) (fun s_ w' => (w'.cell? ⟨gb464, 0, none⟩ = some (.int .i64 a0_0) ∧ w'.cell? ⟨gb464, 1, none⟩ = some (.int .i64 a0_1) ∧ w'.cell? ⟨gb464, 2, none⟩ = some (.int .i64 a0_2) ∧ w'.cell? ⟨gb464, 3, none⟩ = some (.string a0_3)) ∧ (w'.heap[gb464]? = some (.cells #[.int .i64 a0_0, .int .i64 a0_1, .int .i64 a0_2, .string a0_3] 32 (0, 0))) ∧ (Below w.heap.size w w')) ?_ ?_
           rotate_left
           ·intro hJ12
            refine two_ (i := 7) (j := 12) (Ni := some 14) (Nj := some 19) #[true, true, true, true, true, true, true, true, false, true, true, true, false, false, true, true, false, false, false, false] #[true, true, true, true, true, true, true, false, false, true, true, true, true, false, true, true, false, false, false, false] rfl rfl rfl rfl (two_of HT_.out (by kernel_rfl)) (by decide) (by decide) (fun K hK => ?_) (fun K hK => ?_)
            ·skip
             refine Kd.R_lit_step (Kd.int .u8) _ 5 ?hg (N := 14) ?hd (xs := ([(a0_0) % 256, (wrap64 (a0_1 - (-128))) % 256] : List Int)) (inner := [.int .u8 ((a0_0) % 256), .int .u8 ((wrap64 (a0_1 - (-128))) % 256)]) (ok := fun _ => True) (okp := fun _ => True) ?hr ?hp (fun _ hk => hk) trivial (Below.refl _ _) (Nat.le_refl _) (by simp) ?_; (case hd => rfl); (case hg => rfl); (case hr => first | (go_simp; done) | (go_simp; rfl)); (case hp => exact (Reps.one (show Kd.M (Kd.int .u8) _ _ _ ((a0_0) % 256) [.int .u8 ((a0_0) % 256)] from rfl) (Reps.one (show Kd.M (Kd.int .u8) _ _ _ ((wrap64 (a0_1 - (-128))) % 256) [.int .u8 ((wrap64 (a0_1 - (-128))) % 256)] from rfl) (Reps.none _ _))))
             intro v467 w12 ho13 hb hg_ hnew_
             clear hg_ hnew_
             (first | rw [← Ny466.out] at ho13 | (simp only [Int.reduceToNat] at ho13; rw [← Ny466.out] at ho13))
             have HO468 := Aside0.mk (Kd.R_lower ho13 (below_size (by repeat (first | (with_reducible first | exact HB.out | apply below_alloc | apply pw_below_drewN | apply below_drew1 | refine below_set ?_ GE464.out) | exact HB.out))))
             replace BK464 := Aside0.mk (blk_below (bS BK464.out) hb)
             replace HB := Aside0.mk (below_step (by repeat (first | (with_reducible first | exact HB.out | apply below_alloc | apply pw_below_drewN | apply below_drew1 | refine below_set ?_ GE464.out) | exact HB.out)) hb)
             clear hb ho13
             refine hK.out _ _ ⟨(blk_cell BK464.out 0).trans rfl, (blk_cell BK464.out 1).trans rfl, (blk_cell BK464.out 2).trans rfl, (blk_cell BK464.out 3).trans rfl⟩ (fun hHeld => ?_)
             clear hK K
             refine norm_ (a' := ?_) ?_ ?_
             rotate_left
             ·show Act.put _ (some 14) _ = _
              simp only [Act.put, List.setIfInBounds_toArray, List.set_cons_zero, List.set_cons_succ, i64_w, i32_w]
              rfl
             exact norm_ (by first | (simp only [putAll, Act.put, List.setIfInBounds_toArray, List.set_cons_zero, List.set_cons_succ]; done) | (simp only [putAll, Act.put, List.setIfInBounds_toArray, List.set_cons_zero, List.set_cons_succ]; rfl)) (hJ7 (v467) _ ⟨hHeld, (rS HO468.out), (bS BK464.out), (by repeat (first | (with_reducible first | exact HB.out | apply below_alloc | apply pw_below_drewN | apply below_drew1 | refine below_set ?_ GE464.out) | exact HB.out))⟩)
            ·skip
             refine goes_ Try.func99 (by kernel_rfl) rfl #[.int .u64 (IntKind.u64.wrap (a0_2))] (by rfl) rfl rfl (by (try simp only [List.map_toArray, List.map_cons, List.map_nil]); first | done | rfl | (simp only [List.length_drop, List.length_take]; rfl)) ?_
             with_reducible refine (varint_Put.calls k (IntKind.u64.wrap (a0_2)) t469 _ A4.out).mono ?_
             rintro e w12 ⟨rfl, hb⟩
             refine ⟨_, rfl, ?_⟩
             replace BK464 := Aside0.mk (blk_below (bS BK464.out) hb)
             replace HB := Aside0.mk (below_step (by repeat (first | (with_reducible first | exact HB.out | apply below_alloc | apply pw_below_drewN | apply below_drew1 | refine below_set ?_ GE464.out) | exact HB.out)) hb)
             (try clear hb)
             (try clear hb2)
             (try clear hk)
             (try clear hi)
             refine hK.out _ _ ⟨(blk_cell BK464.out 0).trans rfl, (blk_cell BK464.out 1).trans rfl, (blk_cell BK464.out 2).trans rfl, (blk_cell BK464.out 3).trans rfl⟩ (fun hHeld => ?_)
             clear hK K
             refine norm_ (a' := ?_) ?_ ?_
             rotate_left
             ·show Act.put _ (some 19) _ = _
              simp only [Act.put, List.setIfInBounds_toArray, List.set_cons_zero, List.set_cons_succ, i64_w, i32_w]
              rfl
             exact norm_ (by first | (simp only [putAll, Act.put, List.setIfInBounds_toArray, List.set_cons_zero, List.set_cons_succ]; done) | (simp only [putAll, Act.put, List.setIfInBounds_toArray, List.set_cons_zero, List.set_cons_succ]; rfl)) (hJ12 () _ ⟨hHeld, (bS BK464.out), (by repeat (first | (with_reducible first | exact HB.out | apply below_alloc | apply pw_below_drewN | apply below_drew1 | refine below_set ?_ GE464.out) | exact HB.out))⟩)
           ·skip
            rintro _ w13 ⟨hS_, h0_, h1_⟩
            replace BK464 : Aside0 (w13.heap[gb464]? = some (.cells #[.int .i64 a0_0, .int .i64 a0_1, .int .i64 a0_2, .string a0_3] 32 (0, 0))) := ⟨h0_⟩
            replace HB : Aside0 (Below w.heap.size w w13) := ⟨h1_⟩
            clear h0_ h1_
            have hHeld : w13.cell? ⟨gb464, 0, none⟩ = some (.int .i64 a0_0) ∧ w13.cell? ⟨gb464, 1, none⟩ = some (.int .i64 a0_1) ∧ w13.cell? ⟨gb464, 2, none⟩ = some (.int .i64 a0_2) ∧ w13.cell? ⟨gb464, 3, none⟩ = some (.string a0_3) := hS_
            refine norm_ (a' := ?_) ?_ ?_
            rotate_left
            ·simp only [putAll, Act.put, List.setIfInBounds_toArray, List.set_cons_zero, List.set_cons_succ]
             rfl
            refine two_ (i := 7) (j := 16) (Ni := some 14) (Nj := some 23) #[true, true, true, true, true, true, true, true, false, true, true, true, true, false, true, true, false, false, false, false] #[true, true, true, true, true, true, true, false, false, true, true, true, true, false, true, true, true, false, false, false] rfl rfl rfl rfl (two_of HT_.out (by kernel_rfl)) (by decide) (by decide) (fun K hK => ?_) (fun K hK => ?_)
            ·skip
             refine Kd.R_lit_step (Kd.int .u8) _ 5 ?hg (N := 14) ?hd (xs := ([(a0_0) % 256, (wrap64 (a0_1 - (-128))) % 256] : List Int)) (inner := [.int .u8 ((a0_0) % 256), .int .u8 ((wrap64 (a0_1 - (-128))) % 256)]) (ok := fun _ => True) (okp := fun _ => True) ?hr ?hp (fun _ hk => hk) trivial (Below.refl _ _) (Nat.le_refl _) (by simp) ?_; (case hd => rfl); (case hg => rfl); (case hr => first | (go_simp; done) | (go_simp; rfl)); (case hp => exact (Reps.one (show Kd.M (Kd.int .u8) _ _ _ ((a0_0) % 256) [.int .u8 ((a0_0) % 256)] from rfl) (Reps.one (show Kd.M (Kd.int .u8) _ _ _ ((wrap64 (a0_1 - (-128))) % 256) [.int .u8 ((wrap64 (a0_1 - (-128))) % 256)] from rfl) (Reps.none _ _))))
             intro v467 w14 ho15 hb hg_ hnew_
             clear hg_ hnew_
             (first | rw [← Ny466.out] at ho15 | (simp only [Int.reduceToNat] at ho15; rw [← Ny466.out] at ho15))
             have HO468 := Aside0.mk (Kd.R_lower ho15 (below_size (by repeat (first | (with_reducible first | exact HB.out | apply below_alloc | apply pw_below_drewN | apply below_drew1 | refine below_set ?_ GE464.out) | exact HB.out))))
             replace BK464 := Aside0.mk (blk_below (bS BK464.out) hb)
             replace HB := Aside0.mk (below_step (by repeat (first | (with_reducible first | exact HB.out | apply below_alloc | apply pw_below_drewN | apply below_drew1 | refine below_set ?_ GE464.out) | exact HB.out)) hb)
             clear hb ho15
             refine hK.out _ _ ⟨(blk_cell BK464.out 0).trans rfl, (blk_cell BK464.out 1).trans rfl, (blk_cell BK464.out 2).trans rfl, (blk_cell BK464.out 3).trans rfl⟩ (fun hHeld => ?_)
             clear hK K
             refine norm_ (a' := ?_) ?_ ?_
             rotate_left
             ·show Act.put _ (some 14) _ = _
              simp only [Act.put, List.setIfInBounds_toArray, List.set_cons_zero, List.set_cons_succ, i64_w, i32_w]
              rfl
             exact norm_ (by first | (simp only [putAll, Act.put, List.setIfInBounds_toArray, List.set_cons_zero, List.set_cons_succ]; done) | (simp only [putAll, Act.put, List.setIfInBounds_toArray, List.set_cons_zero, List.set_cons_succ]; rfl)) (hJ7_12 (v467) _ ⟨hHeld, (rS HO468.out), (bS BK464.out), (by repeat (first | (with_reducible first | exact HB.out | apply below_alloc | apply pw_below_drewN | apply below_drew1 | refine below_set ?_ GE464.out) | exact HB.out))⟩)
            ·skip
             refine goes_ Try.func105 (by kernel_rfl) rfl #[.string a0_3] (by rfl) rfl rfl (by (try simp only [List.map_toArray, List.map_cons, List.map_nil]); first | done | rfl | (simp only [List.length_drop, List.length_take]; rfl)) ?_
             with_reducible refine (varint_Text.calls k a0_3 t470 _ A6.out).mono ?_
             rintro e w14 ⟨rfl, hb⟩
             refine ⟨_, rfl, ?_⟩
             replace BK464 := Aside0.mk (blk_below (bS BK464.out) hb)
             replace HB := Aside0.mk (below_step (by repeat (first | (with_reducible first | exact HB.out | apply below_alloc | apply pw_below_drewN | apply below_drew1 | refine below_set ?_ GE464.out) | exact HB.out)) hb)
             (try clear hb)
             (try clear hb2)
             (try clear hk)
             (try clear hi)
             refine hK.out _ _ ⟨(blk_cell BK464.out 0).trans rfl, (blk_cell BK464.out 1).trans rfl, (blk_cell BK464.out 2).trans rfl, (blk_cell BK464.out 3).trans rfl⟩ (fun hHeld => ?_)
             clear hK K
             refine norm_ (a' := ?_) ?_ ?_
             rotate_left
             ·show Act.put _ (some 23) _ = _
              simp only [Act.put, List.setIfInBounds_toArray, List.set_cons_zero, List.set_cons_succ, i64_w, i32_w]
              rfl
             exact norm_ (by first | (simp only [putAll, Act.put, List.setIfInBounds_toArray, List.set_cons_zero, List.set_cons_succ]; done) | (simp only [putAll, Act.put, List.setIfInBounds_toArray, List.set_cons_zero, List.set_cons_succ]; rfl)) (hJ12_16 () _ ⟨hHeld, (bS BK464.out), (by repeat (first | (with_reducible first | exact HB.out | apply below_alloc | apply pw_below_drewN | apply below_drew1 | refine below_set ?_ GE464.out) | exact HB.out))⟩)
          ·skip
           rintro v467 w14 ⟨hS_, h0_, h1_, h2_⟩
           have HO468 : Aside0 (Kd.R (Kd.int .u8) 5 w14 w.heap.size (fun _ => True) v467 y466) := ⟨h0_⟩
           replace BK464 : Aside0 (w14.heap[gb464]? = some (.cells #[.int .i64 a0_0, .int .i64 a0_1, .int .i64 a0_2, .string a0_3] 32 (0, 0))) := ⟨h1_⟩
           replace HB : Aside0 (Below w.heap.size w w14) := ⟨h2_⟩
           clear h0_ h1_ h2_
           have hHeld : w14.cell? ⟨gb464, 0, none⟩ = some (.int .i64 a0_0) ∧ w14.cell? ⟨gb464, 1, none⟩ = some (.int .i64 a0_1) ∧ w14.cell? ⟨gb464, 2, none⟩ = some (.int .i64 a0_2) ∧ w14.cell? ⟨gb464, 3, none⟩ = some (.string a0_3) := hS_
           refine norm_ (a' := ?_) ?_ ?_
           rotate_left
           ·simp only [putAll, Act.put, List.setIfInBounds_toArray, List.set_cons_zero, List.set_cons_succ]
            rfl
           refine two_ (i := 8) (j := 12) (Ni := some 15) (Nj := some 19) #[true, true, true, true, true, true, true, true, true, true, true, true, false, false, true, true, false, false, false, false] #[true, true, true, true, true, true, true, true, false, true, true, true, true, false, true, true, false, false, false, false] rfl rfl rfl rfl (two_of HT_.out (by kernel_rfl)) (by decide) (by decide) (fun K hK => ?_) (fun K hK => ?_)
           ·skip
            have hcv15 := own_string (P := Try.prog) Try.underlying119 Try.underlying5 Try.underlying9 (Kd.own_of_R HO468.out)
            refine value_ (w1 := ?_) (v := ?_) (by rfl) rfl ?_ ?_
            rotate_left 2
            ·go_simp
             constructor
             ·rfl
             ·rfl
            clear hcv15
            refine hK.out _ _ ⟨(blk_cell BK464.out 0).trans rfl, (blk_cell BK464.out 1).trans rfl, (blk_cell BK464.out 2).trans rfl, (blk_cell BK464.out 3).trans rfl⟩ (fun hHeld => ?_)
            clear hK K
            refine norm_ (a' := ?_) ?_ ?_
            rotate_left
            ·show Act.put _ (some 15) _ = _
             simp only [Act.put, List.setIfInBounds_toArray, List.set_cons_zero, List.set_cons_succ, i64_w, i32_w]
             rfl
            exact norm_ (by first | (simp only [putAll, Act.put, List.setIfInBounds_toArray, List.set_cons_zero, List.set_cons_succ]; done) | (simp only [putAll, Act.put, List.setIfInBounds_toArray, List.set_cons_zero, List.set_cons_succ]; rfl)) (hJ7_8 (v467) _ ⟨hHeld, (rS HO468.out), (bS BK464.out), (by repeat (first | (with_reducible first | exact HB.out | apply below_alloc | apply pw_below_drewN | apply below_drew1 | refine below_set ?_ GE464.out) | exact HB.out))⟩)
           ·skip
            refine goes_ Try.func99 (by kernel_rfl) rfl #[.int .u64 (IntKind.u64.wrap (a0_2))] (by rfl) rfl rfl (by (try simp only [List.map_toArray, List.map_cons, List.map_nil]); first | done | rfl | (simp only [List.length_drop, List.length_take]; rfl)) ?_
            with_reducible refine (varint_Put.calls k (IntKind.u64.wrap (a0_2)) t469 _ A4.out).mono ?_
            rintro e w15 ⟨rfl, hb⟩
            refine ⟨_, rfl, ?_⟩
            replace HO468 := Aside0.mk (Kd.R_below (rS HO468.out) hb)
            replace BK464 := Aside0.mk (blk_below (bS BK464.out) hb)
            replace HB := Aside0.mk (below_step (by repeat (first | (with_reducible first | exact HB.out | apply below_alloc | apply pw_below_drewN | apply below_drew1 | refine below_set ?_ GE464.out) | exact HB.out)) hb)
            (try clear hb)
            (try clear hb2)
            (try clear hk)
            (try clear hi)
            refine hK.out _ _ ⟨(blk_cell BK464.out 0).trans rfl, (blk_cell BK464.out 1).trans rfl, (blk_cell BK464.out 2).trans rfl, (blk_cell BK464.out 3).trans rfl⟩ (fun hHeld => ?_)
            clear hK K
            refine norm_ (a' := ?_) ?_ ?_
            rotate_left
            ·show Act.put _ (some 19) _ = _
             simp only [Act.put, List.setIfInBounds_toArray, List.set_cons_zero, List.set_cons_succ, i64_w, i32_w]
             rfl
            exact norm_ (by first | (simp only [putAll, Act.put, List.setIfInBounds_toArray, List.set_cons_zero, List.set_cons_succ]; done) | (simp only [putAll, Act.put, List.setIfInBounds_toArray, List.set_cons_zero, List.set_cons_succ]; rfl)) (hJ7_12 (v467) _ ⟨hHeld, (rS HO468.out), (bS BK464.out), (by repeat (first | (with_reducible first | exact HB.out | apply below_alloc | apply pw_below_drewN | apply below_drew1 | refine below_set ?_ GE464.out) | exact HB.out))⟩)
         ·skip
          rintro _ w14 ⟨hS_, h0_, h1_⟩
          replace BK464 : Aside0 (w14.heap[gb464]? = some (.cells #[.int .i64 a0_0, .int .i64 a0_1, .int .i64 a0_2, .string a0_3] 32 (0, 0))) := ⟨h0_⟩
          replace HB : Aside0 (Below w.heap.size w w14) := ⟨h1_⟩
          clear h0_ h1_
          have hHeld : w14.cell? ⟨gb464, 0, none⟩ = some (.int .i64 a0_0) ∧ w14.cell? ⟨gb464, 1, none⟩ = some (.int .i64 a0_1) ∧ w14.cell? ⟨gb464, 2, none⟩ = some (.int .i64 a0_2) ∧ w14.cell? ⟨gb464, 3, none⟩ = some (.string a0_3) := hS_
          refine norm_ (a' := ?_) ?_ ?_
          rotate_left
          ·simp only [putAll, Act.put, List.setIfInBounds_toArray, List.set_cons_zero, List.set_cons_succ]
           rfl
          refine one_ (i := 7) (N := some 14) #[true, true, true, true, true, true, true, true, false, true, true, true, true, false, true, true, true, false, false, false] rfl rfl (one_of HT_.out (by kernel_rfl)) (by decide) (fun K hK => ?_)
          refine Kd.R_lit_step (Kd.int .u8) _ 5 ?hg (N := 14) ?hd (xs := ([(a0_0) % 256, (wrap64 (a0_1 - (-128))) % 256] : List Int)) (inner := [.int .u8 ((a0_0) % 256), .int .u8 ((wrap64 (a0_1 - (-128))) % 256)]) (ok := fun _ => True) (okp := fun _ => True) ?hr ?hp (fun _ hk => hk) trivial (Below.refl _ _) (Nat.le_refl _) (by simp) ?_; (case hd => rfl); (case hg => rfl); (case hr => first | (go_simp; done) | (go_simp; rfl)); (case hp => exact (Reps.one (show Kd.M (Kd.int .u8) _ _ _ ((a0_0) % 256) [.int .u8 ((a0_0) % 256)] from rfl) (Reps.one (show Kd.M (Kd.int .u8) _ _ _ ((wrap64 (a0_1 - (-128))) % 256) [.int .u8 ((wrap64 (a0_1 - (-128))) % 256)] from rfl) (Reps.none _ _))))
          intro v467 w15 ho16 hb hg_ hnew_
          clear hg_ hnew_
          (first | rw [← Ny466.out] at ho16 | (simp only [Int.reduceToNat] at ho16; rw [← Ny466.out] at ho16))
          have HO468 := Aside0.mk (Kd.R_lower ho16 (below_size (by repeat (first | (with_reducible first | exact HB.out | apply below_alloc | apply pw_below_drewN | apply below_drew1 | refine below_set ?_ GE464.out) | exact HB.out))))
          replace BK464 := Aside0.mk (blk_below (bS BK464.out) hb)
          replace HB := Aside0.mk (below_step (by repeat (first | (with_reducible first | exact HB.out | apply below_alloc | apply pw_below_drewN | apply below_drew1 | refine below_set ?_ GE464.out) | exact HB.out)) hb)
          clear hb ho16
          refine hK.out _ _ ⟨(blk_cell BK464.out 0).trans rfl, (blk_cell BK464.out 1).trans rfl, (blk_cell BK464.out 2).trans rfl, (blk_cell BK464.out 3).trans rfl⟩ (fun hHeld => ?_)
          clear hK K
          refine norm_ (a' := ?_) ?_ ?_
          rotate_left
          ·show Act.put _ (some 14) _ = _
           simp only [Act.put, List.setIfInBounds_toArray, List.set_cons_zero, List.set_cons_succ, i64_w, i32_w]
           rfl
          exact norm_ (by first | (simp only [putAll, Act.put, List.setIfInBounds_toArray, List.set_cons_zero, List.set_cons_succ]; done) | (simp only [putAll, Act.put, List.setIfInBounds_toArray, List.set_cons_zero, List.set_cons_succ]; rfl)) (hJ7_12_16 (v467) _ ⟨hHeld, (rS HO468.out), (bS BK464.out), (by repeat (first | (with_reducible first | exact HB.out | apply below_alloc | apply pw_below_drewN | apply below_drew1 | refine below_set ?_ GE464.out) | exact HB.out))⟩)
        ·skip
         rintro v467 w15 ⟨hS_, h0_, h1_, h2_⟩
         have HO468 : Aside0 (Kd.R (Kd.int .u8) 5 w15 w.heap.size (fun _ => True) v467 y466) := ⟨h0_⟩
         replace BK464 : Aside0 (w15.heap[gb464]? = some (.cells #[.int .i64 a0_0, .int .i64 a0_1, .int .i64 a0_2, .string a0_3] 32 (0, 0))) := ⟨h1_⟩
         replace HB : Aside0 (Below w.heap.size w w15) := ⟨h2_⟩
         clear h0_ h1_ h2_
         have hHeld : w15.cell? ⟨gb464, 0, none⟩ = some (.int .i64 a0_0) ∧ w15.cell? ⟨gb464, 1, none⟩ = some (.int .i64 a0_1) ∧ w15.cell? ⟨gb464, 2, none⟩ = some (.int .i64 a0_2) ∧ w15.cell? ⟨gb464, 3, none⟩ = some (.string a0_3) := hS_
         refine norm_ (a' := ?_) ?_ ?_
         rotate_left
         ·simp only [putAll, Act.put, List.setIfInBounds_toArray, List.set_cons_zero, List.set_cons_succ]
          rfl
         refine two_ (i := 8) (j := 16) (Ni := some 15) (Nj := some 23) #[true, true, true, true, true, true, true, true, true, true, true, true, true, false, true, true, false, false, false, false] #[true, true, true, true, true, true, true, true, false, true, true, true, true, false, true, true, true, false, false, false] rfl rfl rfl rfl (two_of HT_.out (by kernel_rfl)) (by decide) (by decide) (fun K hK => ?_) (fun K hK => ?_)
         ·skip
          have hcv16 := own_string (P := Try.prog) Try.underlying119 Try.underlying5 Try.underlying9 (Kd.own_of_R HO468.out)
          refine value_ (w1 := ?_) (v := ?_) (by rfl) rfl ?_ ?_
          rotate_left 2
          ·go_simp
           constructor
           ·rfl
           ·rfl
          clear hcv16
          refine hK.out _ _ ⟨(blk_cell BK464.out 0).trans rfl, (blk_cell BK464.out 1).trans rfl, (blk_cell BK464.out 2).trans rfl, (blk_cell BK464.out 3).trans rfl⟩ (fun hHeld => ?_)
          clear hK K
          refine norm_ (a' := ?_) ?_ ?_
          rotate_left
          ·show Act.put _ (some 15) _ = _
           simp only [Act.put, List.setIfInBounds_toArray, List.set_cons_zero, List.set_cons_succ, i64_w, i32_w]
           rfl
          refine pure_ (i := 13) (N := some 20) (v := ?_) (a' := ?_) #[true, true, true, true, true, true, true, true, true, true, true, true, true, true, true, true, false, false, false, false] rfl rfl (any_of HT_.out (by kernel_rfl)) (fun _ _ _ h => h) (Or.inl ⟨by rfl, ?_⟩) ?_ ?_
          rotate_left
          ·intro w'
           go_simp
           with_reducible rfl
          rotate_left
          ·simp only [Act.put, List.setIfInBounds_toArray, List.set_cons_zero, List.set_cons_succ, i64_w, i32_w]
           rfl
          exact norm_ (by first | (simp only [putAll, Act.put, List.setIfInBounds_toArray, List.set_cons_zero, List.set_cons_succ]; done) | (simp only [putAll, Act.put, List.setIfInBounds_toArray, List.set_cons_zero, List.set_cons_succ]; rfl)) (hJ7_8_12 (v467) _ ⟨hHeld, (rS HO468.out), (bS BK464.out), (by repeat (first | (with_reducible first | exact HB.out | apply below_alloc | apply pw_below_drewN | apply below_drew1 | refine below_set ?_ GE464.out) | exact HB.out))⟩)
         ·skip
          refine goes_ Try.func105 (by kernel_rfl) rfl #[.string a0_3] (by rfl) rfl rfl (by (try simp only [List.map_toArray, List.map_cons, List.map_nil]); first | done | rfl | (simp only [List.length_drop, List.length_take]; rfl)) ?_
          with_reducible refine (varint_Text.calls k a0_3 t470 _ A6.out).mono ?_
          rintro e w16 ⟨rfl, hb⟩
          refine ⟨_, rfl, ?_⟩
          replace HO468 := Aside0.mk (Kd.R_below (rS HO468.out) hb)
          replace BK464 := Aside0.mk (blk_below (bS BK464.out) hb)
          replace HB := Aside0.mk (below_step (by repeat (first | (with_reducible first | exact HB.out | apply below_alloc | apply pw_below_drewN | apply below_drew1 | refine below_set ?_ GE464.out) | exact HB.out)) hb)
          (try clear hb)
          (try clear hb2)
          (try clear hk)
          (try clear hi)
          refine hK.out _ _ ⟨(blk_cell BK464.out 0).trans rfl, (blk_cell BK464.out 1).trans rfl, (blk_cell BK464.out 2).trans rfl, (blk_cell BK464.out 3).trans rfl⟩ (fun hHeld => ?_)
          clear hK K
          refine norm_ (a' := ?_) ?_ ?_
          rotate_left
          ·show Act.put _ (some 23) _ = _
           simp only [Act.put, List.setIfInBounds_toArray, List.set_cons_zero, List.set_cons_succ, i64_w, i32_w]
           rfl
          exact norm_ (by first | (simp only [putAll, Act.put, List.setIfInBounds_toArray, List.set_cons_zero, List.set_cons_succ]; done) | (simp only [putAll, Act.put, List.setIfInBounds_toArray, List.set_cons_zero, List.set_cons_succ]; rfl)) (hJ7_12_16 (v467) _ ⟨hHeld, (rS HO468.out), (bS BK464.out), (by repeat (first | (with_reducible first | exact HB.out | apply below_alloc | apply pw_below_drewN | apply below_drew1 | refine below_set ?_ GE464.out) | exact HB.out))⟩)
       ·skip
        rintro v467 w15 ⟨hS_, h0_, h1_, h2_⟩
        have HO468 : Aside0 (Kd.R (Kd.int .u8) 5 w15 w.heap.size (fun _ => True) v467 y466) := ⟨h0_⟩
        replace BK464 : Aside0 (w15.heap[gb464]? = some (.cells #[.int .i64 a0_0, .int .i64 a0_1, .int .i64 a0_2, .string a0_3] 32 (0, 0))) := ⟨h1_⟩
        replace HB : Aside0 (Below w.heap.size w w15) := ⟨h2_⟩
        clear h0_ h1_ h2_
        have hHeld : w15.cell? ⟨gb464, 0, none⟩ = some (.int .i64 a0_0) ∧ w15.cell? ⟨gb464, 1, none⟩ = some (.int .i64 a0_1) ∧ w15.cell? ⟨gb464, 2, none⟩ = some (.int .i64 a0_2) ∧ w15.cell? ⟨gb464, 3, none⟩ = some (.string a0_3) := hS_
        refine norm_ (a' := ?_) ?_ ?_
        rotate_left
        ·simp only [putAll, Act.put, List.setIfInBounds_toArray, List.set_cons_zero, List.set_cons_succ]
         rfl
        refine one_ (i := 12) (N := some 19) #[true, true, true, true, true, true, true, true, true, true, true, true, true, false, true, true, false, false, false, false] rfl rfl (one_of HT_.out (by kernel_rfl)) (by decide) (fun K hK => ?_)
        refine goes_ Try.func99 (by kernel_rfl) rfl #[.int .u64 (IntKind.u64.wrap (a0_2))] (by rfl) rfl rfl (by (try simp only [List.map_toArray, List.map_cons, List.map_nil]); first | done | rfl | (simp only [List.length_drop, List.length_take]; rfl)) ?_
        with_reducible refine (varint_Put.calls k (IntKind.u64.wrap (a0_2)) t469 _ A4.out).mono ?_
        rintro e w16 ⟨rfl, hb⟩
        refine ⟨_, rfl, ?_⟩
        replace HO468 := Aside0.mk (Kd.R_below (rS HO468.out) hb)
        replace BK464 := Aside0.mk (blk_below (bS BK464.out) hb)
        replace HB := Aside0.mk (below_step (by repeat (first | (with_reducible first | exact HB.out | apply below_alloc | apply pw_below_drewN | apply below_drew1 | refine below_set ?_ GE464.out) | exact HB.out)) hb)
        (try clear hb)
        (try clear hb2)
        (try clear hk)
        (try clear hi)
        refine hK.out _ _ ⟨(blk_cell BK464.out 0).trans rfl, (blk_cell BK464.out 1).trans rfl, (blk_cell BK464.out 2).trans rfl, (blk_cell BK464.out 3).trans rfl⟩ (fun hHeld => ?_)
        clear hK K
        refine norm_ (a' := ?_) ?_ ?_
        rotate_left
        ·show Act.put _ (some 19) _ = _
         simp only [Act.put, List.setIfInBounds_toArray, List.set_cons_zero, List.set_cons_succ, i64_w, i32_w]
         rfl
        refine pure_ (i := 13) (N := some 20) (v := ?_) (a' := ?_) #[true, true, true, true, true, true, true, true, true, true, true, true, true, true, true, true, false, false, false, false] rfl rfl (any_of HT_.out (by kernel_rfl)) (fun _ _ _ h => h) (Or.inl ⟨by rfl, ?_⟩) ?_ ?_
        rotate_left
        ·intro w'
         go_simp
         with_reducible rfl
        rotate_left
        ·simp only [Act.put, List.setIfInBounds_toArray, List.set_cons_zero, List.set_cons_succ, i64_w, i32_w]
         rfl
        exact norm_ (by first | (simp only [putAll, Act.put, List.setIfInBounds_toArray, List.set_cons_zero, List.set_cons_succ]; done) | (simp only [putAll, Act.put, List.setIfInBounds_toArray, List.set_cons_zero, List.set_cons_succ]; rfl)) (hJ7_8_12 (v467) _ ⟨hHeld, (rS HO468.out), (bS BK464.out), (by repeat (first | (with_reducible first | exact HB.out | apply below_alloc | apply pw_below_drewN | apply below_drew1 | refine below_set ?_ GE464.out) | exact HB.out))⟩)
      ·skip
       rintro v467 w16 ⟨hS_, h0_, h1_, h2_⟩
       have HO468 : Aside0 (Kd.R (Kd.int .u8) 5 w16 w.heap.size (fun _ => True) v467 y466) := ⟨h0_⟩
       replace BK464 : Aside0 (w16.heap[gb464]? = some (.cells #[.int .i64 a0_0, .int .i64 a0_1, .int .i64 a0_2, .string a0_3] 32 (0, 0))) := ⟨h1_⟩
       replace HB : Aside0 (Below w.heap.size w w16) := ⟨h2_⟩
       clear h0_ h1_ h2_
       have hHeld : w16.cell? ⟨gb464, 0, none⟩ = some (.int .i64 a0_0) ∧ w16.cell? ⟨gb464, 1, none⟩ = some (.int .i64 a0_1) ∧ w16.cell? ⟨gb464, 2, none⟩ = some (.int .i64 a0_2) ∧ w16.cell? ⟨gb464, 3, none⟩ = some (.string a0_3) := hS_
       refine norm_ (a' := ?_) ?_ ?_
       rotate_left
       ·simp only [putAll, Act.put, List.setIfInBounds_toArray, List.set_cons_zero, List.set_cons_succ]
        rfl
       refine one_ (i := 8) (N := some 15) #[true, true, true, true, true, true, true, true, true, true, true, true, true, false, true, true, true, false, false, false] rfl rfl (one_of HT_.out (by kernel_rfl)) (by decide) (fun K hK => ?_)
       have hcv17 := own_string (P := Try.prog) Try.underlying119 Try.underlying5 Try.underlying9 (Kd.own_of_R HO468.out)
       refine value_ (w1 := ?_) (v := ?_) (by rfl) rfl ?_ ?_
       rotate_left 2
       ·go_simp
        constructor
        ·rfl
        ·rfl
       clear hcv17
       refine hK.out _ _ ⟨(blk_cell BK464.out 0).trans rfl, (blk_cell BK464.out 1).trans rfl, (blk_cell BK464.out 2).trans rfl, (blk_cell BK464.out 3).trans rfl⟩ (fun hHeld => ?_)
       clear hK K
       refine norm_ (a' := ?_) ?_ ?_
       rotate_left
       ·show Act.put _ (some 15) _ = _
        simp only [Act.put, List.setIfInBounds_toArray, List.set_cons_zero, List.set_cons_succ, i64_w, i32_w]
        rfl
       refine pure_ (i := 13) (N := some 20) (v := ?_) (a' := ?_) #[true, true, true, true, true, true, true, true, true, true, true, true, true, true, true, true, true, false, false, false] rfl rfl (any_of HT_.out (by kernel_rfl)) (fun _ _ _ h => h) (Or.inl ⟨by rfl, ?_⟩) ?_ ?_
       rotate_left
       ·intro w'
        go_simp
        with_reducible rfl
       rotate_left
       ·simp only [Act.put, List.setIfInBounds_toArray, List.set_cons_zero, List.set_cons_succ, i64_w, i32_w]
        rfl
       exact norm_ (by first | (simp only [putAll, Act.put, List.setIfInBounds_toArray, List.set_cons_zero, List.set_cons_succ]; done) | (simp only [putAll, Act.put, List.setIfInBounds_toArray, List.set_cons_zero, List.set_cons_succ]; rfl)) (hJ7_8_12_16 (v467) _ ⟨hHeld, (rS HO468.out), (bS BK464.out), (by repeat (first | (with_reducible first | exact HB.out | apply below_alloc | apply pw_below_drewN | apply below_drew1 | refine below_set ?_ GE464.out) | exact HB.out))⟩)
     ·skip
      rintro v467 w16 ⟨hS_, h0_, h1_, h2_⟩
      have HO468 : Aside0 (Kd.R (Kd.int .u8) 5 w16 w.heap.size (fun _ => True) v467 y466) := ⟨h0_⟩
      replace BK464 : Aside0 (w16.heap[gb464]? = some (.cells #[.int .i64 a0_0, .int .i64 a0_1, .int .i64 a0_2, .string a0_3] 32 (0, 0))) := ⟨h1_⟩
      replace HB : Aside0 (Below w.heap.size w w16) := ⟨h2_⟩
      clear h0_ h1_ h2_
      have hHeld : w16.cell? ⟨gb464, 0, none⟩ = some (.int .i64 a0_0) ∧ w16.cell? ⟨gb464, 1, none⟩ = some (.int .i64 a0_1) ∧ w16.cell? ⟨gb464, 2, none⟩ = some (.int .i64 a0_2) ∧ w16.cell? ⟨gb464, 3, none⟩ = some (.string a0_3) := hS_
      refine norm_ (a' := ?_) ?_ ?_
      rotate_left
      ·simp only [putAll, Act.put, List.setIfInBounds_toArray, List.set_cons_zero, List.set_cons_succ]
       rfl
      refine one_ (i := 16) (N := some 23) #[true, true, true, true, true, true, true, true, true, true, true, true, true, true, true, true, true, false, false, false] rfl rfl (one_of HT_.out (by kernel_rfl)) (by decide) (fun K hK => ?_)
      refine goes_ Try.func105 (by kernel_rfl) rfl #[.string a0_3] (by rfl) rfl rfl (by (try simp only [List.map_toArray, List.map_cons, List.map_nil]); first | done | rfl | (simp only [List.length_drop, List.length_take]; rfl)) ?_
      with_reducible refine (varint_Text.calls k a0_3 t470 _ A6.out).mono ?_
      rintro e w17 ⟨rfl, hb⟩
      refine ⟨_, rfl, ?_⟩
      replace HO468 := Aside0.mk (Kd.R_below (rS HO468.out) hb)
      replace BK464 := Aside0.mk (blk_below (bS BK464.out) hb)
      replace HB := Aside0.mk (below_step (by repeat (first | (with_reducible first | exact HB.out | apply below_alloc | apply pw_below_drewN | apply below_drew1 | refine below_set ?_ GE464.out) | exact HB.out)) hb)
      (try clear hb)
      (try clear hb2)
      (try clear hk)
      (try clear hi)
      refine hK.out _ _ ⟨(blk_cell BK464.out 0).trans rfl, (blk_cell BK464.out 1).trans rfl, (blk_cell BK464.out 2).trans rfl, (blk_cell BK464.out 3).trans rfl⟩ (fun hHeld => ?_)
      clear hK K
      refine norm_ (a' := ?_) ?_ ?_
      rotate_left
      ·show Act.put _ (some 23) _ = _
       simp only [Act.put, List.setIfInBounds_toArray, List.set_cons_zero, List.set_cons_succ, i64_w, i32_w]
       rfl
      exact norm_ (by first | (simp only [putAll, Act.put, List.setIfInBounds_toArray, List.set_cons_zero, List.set_cons_succ]; done) | (simp only [putAll, Act.put, List.setIfInBounds_toArray, List.set_cons_zero, List.set_cons_succ]; rfl)) (hJ7_8_12_16 (v467) _ ⟨hHeld, (rS HO468.out), (bS BK464.out), (by repeat (first | (with_reducible first | exact HB.out | apply below_alloc | apply pw_below_drewN | apply below_drew1 | refine below_set ?_ GE464.out) | exact HB.out))⟩)
    rintro v467 w17 ⟨hS_, h0_, h1_, h2_⟩
    have HO468 : Aside0 (Kd.R (Kd.int .u8) 5 w17 w.heap.size (fun _ => True) v467 y466) := ⟨h0_⟩
    replace BK464 : Aside0 (w17.heap[gb464]? = some (.cells #[.int .i64 a0_0, .int .i64 a0_1, .int .i64 a0_2, .string a0_3] 32 (0, 0))) := ⟨h1_⟩
    replace HB : Aside0 (Below w.heap.size w w17) := ⟨h2_⟩
    clear h0_ h1_ h2_
    have hHeld : w17.cell? ⟨gb464, 0, none⟩ = some (.int .i64 a0_0) ∧ w17.cell? ⟨gb464, 1, none⟩ = some (.int .i64 a0_1) ∧ w17.cell? ⟨gb464, 2, none⟩ = some (.int .i64 a0_2) ∧ w17.cell? ⟨gb464, 3, none⟩ = some (.string a0_3) := hS_
    refine norm_ (a' := ?_) ?_ ?_
    rotate_left
    ·simp only [putAll, Act.put, List.setIfInBounds_toArray, List.set_cons_zero, List.set_cons_succ]
     rfl
    refine pure_ (i := 17) (N := some 24) (v := ?_) (a' := ?_) #[true, true, true, true, true, true, true, true, true, true, true, true, true, true, true, true, true, true, false, false] rfl rfl (any_of HT_.out (by kernel_rfl)) (fun _ _ _ h => h) (Or.inl ⟨by rfl, ?_⟩) ?_ ?_
    rotate_left
    ·intro w'
     go_simp
     with_reducible rfl
    rotate_left
    ·simp only [Act.put, List.setIfInBounds_toArray, List.set_cons_zero, List.set_cons_succ, i64_w, i32_w]
     rfl
    refine pure_ (i := 18) (N := some 2) (v := ?_) (a' := ?_) #[true, true, true, true, true, true, true, true, true, true, true, true, true, true, true, true, true, true, true, false] rfl rfl (any_of HT_.out (by kernel_rfl)) (fun _ _ _ h => h) (Or.inl ⟨by rfl, ?_⟩) ?_ ?_
    rotate_left
    ·intro w'
     go_simp
     with_reducible rfl
    rotate_left
    ·simp only [Act.put, List.setIfInBounds_toArray, List.set_cons_zero, List.set_cons_succ, i64_w, i32_w]
     rfl
    refine pure_ (i := 19) (N := some 3) (v := ?_) (a' := ?_) #[true, true, true, true, true, true, true, true, true, true, true, true, true, true, true, true, true, true, true, true] rfl rfl (any_of HT_.out (by kernel_rfl)) (fun _ _ _ h => h) (Or.inl ⟨by rfl, ?_⟩) ?_ ?_
    rotate_left
    ·intro w'
     go_simp
     with_reducible rfl
    rotate_left
    ·simp only [Act.put, List.setIfInBounds_toArray, List.set_cons_zero, List.set_cons_succ, i64_w, i32_w]
     rfl
    refine done_ (done_of HT_.out (by kernel_rfl)) ?_
    try go_wp2
    go_ret2
    exact ⟨by first | rfl | (simp [errW_none, errW_some] <;> rfl) | (simp [*, errW_none, errW_some] <;> rfl), by repeat (first | (with_reducible first | exact HB.out | apply below_alloc | apply pw_below_drewN | apply below_drew1 | refine below_set ?_ GE464.out) | exact HB.out)⟩
   ·rw [if_neg c7] at H
    exact absurd H (by simp)
  ·rw [if_neg c5] at H
   exact absurd H (by simp)
 ·replace c3 := Bool.eq_false_iff.mpr c3
  subst c3
  have H1 : (some ((⟨#[]⟩ : ByteArray), false)) = some (r1, r2) := by rw [if_neg (show ¬ (false = true) by decide)] at H; exact H
  clear H
  have H := H1
  clear H1
  simp only [Option.some.injEq, Prod.mk.injEq] at H
  obtain ⟨rfl, rfl⟩ := H
  go_enter Try.func101, Try.ntmps101
  go_wp2_with (first | ((with_reducible refine gate_dst (N := 1) rfl ?_); refine box_event ?hg (N := 1) ?hd (cs := #[.int .i64 a0_0, .int .i64 a0_1, .int .i64 a0_2, .string a0_3]) (t := 32) ?hr ?_; (case hd => rfl); (case hg => rfl); (case hr => first | (go_simp; done) | (go_simp; rfl)); intro gb464 hg w18 hbox hb; have BK464 := Aside0.mk (hbox); have GW464 := Aside0.mk ((by rw [hg]; exact (below_size (hS HB.out)) : w.heap.size ≤ gb464)); have GE464 := Aside0.mk ((by rw [hg]; exact (below_size (hS HB.out)) : w.heap.size ≤ gb464)); replace HB := Aside0.mk (below_step (hS HB.out) hb); clear hb hbox hg; have hcz19_0 : w18.cell? ⟨gb464, 0, none⟩ = some (.int .i64 a0_0) := (blk_cell BK464.out 0).trans rfl; have hcz19_1 : w18.cell? ⟨gb464, 1, none⟩ = some (.int .i64 a0_1) := (blk_cell BK464.out 1).trans rfl; have hcz19_2 : w18.cell? ⟨gb464, 2, none⟩ = some (.int .i64 a0_2) := (blk_cell BK464.out 2).trans rfl; have hcz19_3 : w18.cell? ⟨gb464, 3, none⟩ = some (.string a0_3) := (blk_cell BK464.out 3).trans rfl; have hfz19_0 := blk_frozen BK464.out 0; have hfz19_1 := blk_frozen BK464.out 1; have hfz19_2 := blk_frozen BK464.out 2; have hfz19_3 := blk_frozen BK464.out 3) | ((with_reducible refine gate_callee (f := 69) rfl ?_); refine goesL_ (some 5) rfl rfl Try.func69 (by kernel_rfl) rfl #[.agg #[.int .i64 a0_0, .int .i64 a0_1, .int .i64 a0_2, .string a0_3]] rfl (by (try simp only [List.map_toArray, List.map_cons, List.map_nil]); first | done | rfl | (simp only [List.length_drop, List.length_take]; rfl)) ?_; (with_reducible refine (value_May.calls a0_0 a0_1 a0_2 a0_3 false _ A2.out).mono ?_); rintro e w20 ⟨rfl, hb⟩; refine ⟨_, rfl, ?_⟩; replace BK464 := Aside0.mk (blk_below (bS BK464.out) hb); replace HB := Aside0.mk (below_step (hS HB.out) hb); (try clear hb); (try clear hb2); (try clear hk); (try clear hi)))
  go_ret2
  exact ⟨by first | rfl | (simp [errW_none, errW_some] <;> rfl) | (simp [*, errW_none, errW_some] <;> rfl), by repeat (first | (with_reducible first | exact HB.out | apply below_alloc | apply pw_below_drewN | apply below_drew1 | refine below_set ?_ GE464.out) | exact HB.out)⟩

end Go.Proofs.Ytmigglldahkngaa.PA
end

section
-- Written by a program of this session (wip/tools/xprint.py), which drives the kit's print.
namespace Go.Proofs.Ytmigglldahkngaa.PA
open Go.RowKit Go.Proofs.YtmigglldahkngaaW.PrintWords Go.Proofs.YtmigglldahkngaaW.PrintLast Go.Proofs.YtmigglldahkngaaW.PrintMore
attribute [local go_sem] max2_int min2_int max_two min_two   -- for this text's walks alone
set_option linter.unusedVariables false
set_option linter.unusedSimpArgs false

/-! ### pace_fits: function 71 -/
def pace_fits.f (a0_0 : Int) (a0_1 : Int) (a0_2 : Int) (a0_3 : Int) (a1_0 : Int) (a1_1 : Int) (a2 : Int) : Option (Bool) := (pace_May.f a0_0 a0_1 a0_2 a0_3).bind fun t195 => (if t195 = true then ((pace_within.f a1_0 0 a0_1).bind fun t196 => (if t196 = true then ((pace_within.f a1_1 0 1099511627776).bind fun t197 => (if t197 = true then ((pace_within.f a2 0 1099511627776).bind fun t198 => (some t198)) else (some false))) else (some false))) else (some false))
set_option maxHeartbeats 8000000 in
set_option maxRecDepth 100000 in
theorem pace_fits.calls (a0_0 : Int) (a0_1 : Int) (a0_2 : Int) (a0_3 : Int) (a1_0 : Int) (a1_1 : Int) (a2 : Int) (r : Bool) (w : World) (h : pace_fits.f a0_0 a0_1 a0_2 a0_3 a1_0 a1_1 a2 = some r) :
  Calls Try.prog 71 #[.agg #[.int .i64 a0_0, .int .i64 a0_1, .int .i64 a0_2, .int .i64 a0_3], .agg #[.int .i64 a1_0, .int .i64 a1_1], .int .i64 a2] w fun e w' => e = .returned (.bool r) ∧ Below w.heap.size w w' := by
 have hu23 := Try.underlying23
 have hu28 := Try.underlying28
 have HB := Aside0.mk (Below.refl w.heap.size w)
 have H : ((pace_May.f a0_0 a0_1 a0_2 a0_3).bind fun t195 => (if t195 = true then ((pace_within.f a1_0 0 a0_1).bind fun t196 => (if t196 = true then ((pace_within.f a1_1 0 1099511627776).bind fun t197 => (if t197 = true then ((pace_within.f a2 0 1099511627776).bind fun t198 => (some t198)) else (some false))) else (some false))) else (some false))) = some r := h
 clear h
 replace H := Option.bind_eq_some_iff.mp H
 obtain ⟨t195, A40, H⟩ := H
 replace H : (if t195 = true then ((pace_within.f a1_0 0 a0_1).bind fun t196 => (if t196 = true then ((pace_within.f a1_1 0 1099511627776).bind fun t197 => (if t197 = true then ((pace_within.f a2 0 1099511627776).bind fun t198 => (some t198)) else (some false))) else (some false))) else (some false)) = some r := H
 have A4 := Aside0.mk A40
 clear A40
 by_cases c5 : t195 = true
 ·subst c5
  have H1 : ((pace_within.f a1_0 0 a0_1).bind fun t196 => (if t196 = true then ((pace_within.f a1_1 0 1099511627776).bind fun t197 => (if t197 = true then ((pace_within.f a2 0 1099511627776).bind fun t198 => (some t198)) else (some false))) else (some false))) = some r := by rw [if_pos rfl] at H; exact H
  clear H
  have H := H1
  clear H1
  replace H := Option.bind_eq_some_iff.mp H
  obtain ⟨t196, A60, H⟩ := H
  replace H : (if t196 = true then ((pace_within.f a1_1 0 1099511627776).bind fun t197 => (if t197 = true then ((pace_within.f a2 0 1099511627776).bind fun t198 => (some t198)) else (some false))) else (some false)) = some r := H
  have A6 := Aside0.mk A60
  clear A60
  by_cases c7 : t196 = true
  ·subst c7
   have H1 : ((pace_within.f a1_1 0 1099511627776).bind fun t197 => (if t197 = true then ((pace_within.f a2 0 1099511627776).bind fun t198 => (some t198)) else (some false))) = some r := by rw [if_pos rfl] at H; exact H
   clear H
   have H := H1
   clear H1
   replace H := Option.bind_eq_some_iff.mp H
   obtain ⟨t197, A80, H⟩ := H
   replace H : (if t197 = true then ((pace_within.f a2 0 1099511627776).bind fun t198 => (some t198)) else (some false)) = some r := H
   have A8 := Aside0.mk A80
   clear A80
   by_cases c9 : t197 = true
   ·subst c9
    have H1 : ((pace_within.f a2 0 1099511627776).bind fun t198 => (some t198)) = some r := by rw [if_pos rfl] at H; exact H
    clear H
    have H := H1
    clear H1
    replace H := Option.bind_eq_some_iff.mp H
    obtain ⟨t198, A100, H⟩ := H
    replace H : (some t198) = some r := H
    have A10 := Aside0.mk A100
    clear A100
    obtain rfl := Option.some.inj H
    go_enter Try.func71, Try.ntmps71
    go_wp2_with (first | ((with_reducible refine gate_dst (N := 3) rfl ?_); refine box_event ?hg (N := 3) ?hd (cs := #[.int .i64 a0_0, .int .i64 a0_1, .int .i64 a0_2, .int .i64 a0_3]) (t := 23) ?hr ?_; (case hd => rfl); (case hg => rfl); (case hr => first | (go_simp; done) | (go_simp; rfl)); intro gb193 hg w11 hbox hb; have BK193 := Aside0.mk (hbox); have GW193 := Aside0.mk ((by rw [hg]; exact (below_size (hS HB.out)) : w.heap.size ≤ gb193)); have GE193 := Aside0.mk ((by rw [hg]; exact (below_size (hS HB.out)) : w.heap.size ≤ gb193)); replace HB := Aside0.mk (below_step (hS HB.out) hb); clear hb hbox hg) | ((with_reducible refine gate_dst (N := 4) rfl ?_); refine box_event ?hg (N := 4) ?hd (cs := #[.int .i64 a1_0, .int .i64 a1_1]) (t := 28) ?hr ?_; (case hd => rfl); (case hg => rfl); (case hr => first | (go_simp; done) | (go_simp; rfl)); intro gb194 hg w12 hbox hb; have BK194 := Aside0.mk (hbox); have GW194 := Aside0.mk ((by rw [hg]; exact (below_size (hS HB.out)) : w.heap.size ≤ gb194)); have GE194 := Aside0.mk ((by rw [hg]; exact (below_size (hS HB.out)) : w.heap.size ≤ gb194)); replace HB := Aside0.mk (below_step (hS HB.out) hb); have NB193_194 := Aside0.mk ((by rw [hg]; exact Nat.ne_of_lt (blk_lt (bS BK193.out)) : gb193 ≠ gb194)); have NB194_193 := Aside0.mk ((by rw [hg]; exact Nat.ne_of_gt (blk_lt (bS BK193.out)) : gb194 ≠ gb193)); replace BK193 := Aside0.mk (blk_below (bS BK193.out) hb); clear hb hbox hg; have hnb13 := NB193_194.out; have hnc13 := NB194_193.out; have hcz14_0 : w12.cell? ⟨gb193, 0, none⟩ = some (.int .i64 a0_0) := (blk_cell BK193.out 0).trans rfl; have hcz14_1 : w12.cell? ⟨gb193, 1, none⟩ = some (.int .i64 a0_1) := (blk_cell BK193.out 1).trans rfl; have hcz14_2 : w12.cell? ⟨gb193, 2, none⟩ = some (.int .i64 a0_2) := (blk_cell BK193.out 2).trans rfl; have hcz14_3 : w12.cell? ⟨gb193, 3, none⟩ = some (.int .i64 a0_3) := (blk_cell BK193.out 3).trans rfl; have hfz14_0 := blk_frozen BK193.out 0; have hfz14_1 := blk_frozen BK193.out 1; have hfz14_2 := blk_frozen BK193.out 2; have hfz14_3 := blk_frozen BK193.out 3) | ((with_reducible refine gate_callee (f := 41) rfl ?_); refine goesL_ (some 8) rfl rfl Try.func41 (by kernel_rfl) rfl #[.agg #[.int .i64 a0_0, .int .i64 a0_1, .int .i64 a0_2, .int .i64 a0_3]] rfl (by (try simp only [List.map_toArray, List.map_cons, List.map_nil]); first | done | rfl | (simp only [List.length_drop, List.length_take]; rfl)) ?_; (with_reducible refine (pace_May.calls a0_0 a0_1 a0_2 a0_3 true _ A4.out).mono ?_); rintro e w15 ⟨rfl, hb⟩; refine ⟨_, rfl, ?_⟩; replace BK193 := Aside0.mk (blk_below (bS BK193.out) hb); replace BK194 := Aside0.mk (blk_below (bS BK194.out) hb); replace HB := Aside0.mk (below_step (hS HB.out) hb); (try clear hb); (try clear hb2); (try clear hk); (try clear hi); have hcz16_0 : w15.cell? ⟨gb194, 0, none⟩ = some (.int .i64 a1_0) := (blk_cell BK194.out 0).trans rfl; have hcz16_1 : w15.cell? ⟨gb194, 1, none⟩ = some (.int .i64 a1_1) := (blk_cell BK194.out 1).trans rfl; have hfz16_0 := blk_frozen BK194.out 0; have hfz16_1 := blk_frozen BK194.out 1; have hcz17_0 : w15.cell? ⟨gb193, 0, none⟩ = some (.int .i64 a0_0) := (blk_cell BK193.out 0).trans rfl; have hcz17_1 : w15.cell? ⟨gb193, 1, none⟩ = some (.int .i64 a0_1) := (blk_cell BK193.out 1).trans rfl; have hcz17_2 : w15.cell? ⟨gb193, 2, none⟩ = some (.int .i64 a0_2) := (blk_cell BK193.out 2).trans rfl; have hcz17_3 : w15.cell? ⟨gb193, 3, none⟩ = some (.int .i64 a0_3) := (blk_cell BK193.out 3).trans rfl; have hfz17_0 := blk_frozen BK193.out 0; have hfz17_1 := blk_frozen BK193.out 1; have hfz17_2 := blk_frozen BK193.out 2; have hfz17_3 := blk_frozen BK193.out 3) | (go_at_call 60; (with_reducible refine (pace_within.calls a1_0 0 a0_1 true _ A6.out).mono ?_); rintro e w' ⟨rfl, ⟨nd, rfl⟩⟩) | (go_at_call 60; (with_reducible refine (pace_within.calls a1_1 0 1099511627776 true _ A8.out).mono ?_); rintro e w' ⟨rfl, ⟨nd, rfl⟩⟩) | (go_at_call 60; (with_reducible refine (pace_within.calls a2 0 1099511627776 t198 _ A10.out).mono ?_); rintro e w' ⟨rfl, ⟨nd, rfl⟩⟩))
    go_ret
    exact ⟨by first | rfl | (simp [errW_none, errW_some] <;> rfl) | (simp [*, errW_none, errW_some] <;> rfl), by repeat (first | (with_reducible first | exact HB.out | apply below_alloc | apply pw_below_drewN | apply below_drew1 | refine below_set ?_ GE193.out | refine below_set ?_ GE194.out) | exact HB.out)⟩
   ·replace c9 := Bool.eq_false_iff.mpr c9
    subst c9
    have H1 : (some false) = some r := by rw [if_neg (show ¬ (false = true) by decide)] at H; exact H
    clear H
    have H := H1
    clear H1
    obtain rfl := Option.some.inj H
    go_enter Try.func71, Try.ntmps71
    go_wp2_with (first | ((with_reducible refine gate_dst (N := 3) rfl ?_); refine box_event ?hg (N := 3) ?hd (cs := #[.int .i64 a0_0, .int .i64 a0_1, .int .i64 a0_2, .int .i64 a0_3]) (t := 23) ?hr ?_; (case hd => rfl); (case hg => rfl); (case hr => first | (go_simp; done) | (go_simp; rfl)); intro gb193 hg w18 hbox hb; have BK193 := Aside0.mk (hbox); have GW193 := Aside0.mk ((by rw [hg]; exact (below_size (hS HB.out)) : w.heap.size ≤ gb193)); have GE193 := Aside0.mk ((by rw [hg]; exact (below_size (hS HB.out)) : w.heap.size ≤ gb193)); replace HB := Aside0.mk (below_step (hS HB.out) hb); clear hb hbox hg) | ((with_reducible refine gate_dst (N := 4) rfl ?_); refine box_event ?hg (N := 4) ?hd (cs := #[.int .i64 a1_0, .int .i64 a1_1]) (t := 28) ?hr ?_; (case hd => rfl); (case hg => rfl); (case hr => first | (go_simp; done) | (go_simp; rfl)); intro gb194 hg w19 hbox hb; have BK194 := Aside0.mk (hbox); have GW194 := Aside0.mk ((by rw [hg]; exact (below_size (hS HB.out)) : w.heap.size ≤ gb194)); have GE194 := Aside0.mk ((by rw [hg]; exact (below_size (hS HB.out)) : w.heap.size ≤ gb194)); replace HB := Aside0.mk (below_step (hS HB.out) hb); have NB193_194 := Aside0.mk ((by rw [hg]; exact Nat.ne_of_lt (blk_lt (bS BK193.out)) : gb193 ≠ gb194)); have NB194_193 := Aside0.mk ((by rw [hg]; exact Nat.ne_of_gt (blk_lt (bS BK193.out)) : gb194 ≠ gb193)); replace BK193 := Aside0.mk (blk_below (bS BK193.out) hb); clear hb hbox hg; have hnb20 := NB193_194.out; have hnc20 := NB194_193.out; have hcz21_0 : w19.cell? ⟨gb193, 0, none⟩ = some (.int .i64 a0_0) := (blk_cell BK193.out 0).trans rfl; have hcz21_1 : w19.cell? ⟨gb193, 1, none⟩ = some (.int .i64 a0_1) := (blk_cell BK193.out 1).trans rfl; have hcz21_2 : w19.cell? ⟨gb193, 2, none⟩ = some (.int .i64 a0_2) := (blk_cell BK193.out 2).trans rfl; have hcz21_3 : w19.cell? ⟨gb193, 3, none⟩ = some (.int .i64 a0_3) := (blk_cell BK193.out 3).trans rfl; have hfz21_0 := blk_frozen BK193.out 0; have hfz21_1 := blk_frozen BK193.out 1; have hfz21_2 := blk_frozen BK193.out 2; have hfz21_3 := blk_frozen BK193.out 3) | ((with_reducible refine gate_callee (f := 41) rfl ?_); refine goesL_ (some 8) rfl rfl Try.func41 (by kernel_rfl) rfl #[.agg #[.int .i64 a0_0, .int .i64 a0_1, .int .i64 a0_2, .int .i64 a0_3]] rfl (by (try simp only [List.map_toArray, List.map_cons, List.map_nil]); first | done | rfl | (simp only [List.length_drop, List.length_take]; rfl)) ?_; (with_reducible refine (pace_May.calls a0_0 a0_1 a0_2 a0_3 true _ A4.out).mono ?_); rintro e w22 ⟨rfl, hb⟩; refine ⟨_, rfl, ?_⟩; replace BK193 := Aside0.mk (blk_below (bS BK193.out) hb); replace BK194 := Aside0.mk (blk_below (bS BK194.out) hb); replace HB := Aside0.mk (below_step (hS HB.out) hb); (try clear hb); (try clear hb2); (try clear hk); (try clear hi); have hcz23_0 : w22.cell? ⟨gb194, 0, none⟩ = some (.int .i64 a1_0) := (blk_cell BK194.out 0).trans rfl; have hcz23_1 : w22.cell? ⟨gb194, 1, none⟩ = some (.int .i64 a1_1) := (blk_cell BK194.out 1).trans rfl; have hfz23_0 := blk_frozen BK194.out 0; have hfz23_1 := blk_frozen BK194.out 1; have hcz24_0 : w22.cell? ⟨gb193, 0, none⟩ = some (.int .i64 a0_0) := (blk_cell BK193.out 0).trans rfl; have hcz24_1 : w22.cell? ⟨gb193, 1, none⟩ = some (.int .i64 a0_1) := (blk_cell BK193.out 1).trans rfl; have hcz24_2 : w22.cell? ⟨gb193, 2, none⟩ = some (.int .i64 a0_2) := (blk_cell BK193.out 2).trans rfl; have hcz24_3 : w22.cell? ⟨gb193, 3, none⟩ = some (.int .i64 a0_3) := (blk_cell BK193.out 3).trans rfl; have hfz24_0 := blk_frozen BK193.out 0; have hfz24_1 := blk_frozen BK193.out 1; have hfz24_2 := blk_frozen BK193.out 2; have hfz24_3 := blk_frozen BK193.out 3) | (go_at_call 60; (with_reducible refine (pace_within.calls a1_0 0 a0_1 true _ A6.out).mono ?_); rintro e w' ⟨rfl, ⟨nd, rfl⟩⟩) | (go_at_call 60; (with_reducible refine (pace_within.calls a1_1 0 1099511627776 false _ A8.out).mono ?_); rintro e w' ⟨rfl, ⟨nd, rfl⟩⟩))
    go_ret
    exact ⟨by first | rfl | (simp [errW_none, errW_some] <;> rfl) | (simp [*, errW_none, errW_some] <;> rfl), by repeat (first | (with_reducible first | exact HB.out | apply below_alloc | apply pw_below_drewN | apply below_drew1 | refine below_set ?_ GE193.out | refine below_set ?_ GE194.out) | exact HB.out)⟩
  ·replace c7 := Bool.eq_false_iff.mpr c7
   subst c7
   have H1 : (some false) = some r := by rw [if_neg (show ¬ (false = true) by decide)] at H; exact H
   clear H
   have H := H1
   clear H1
   obtain rfl := Option.some.inj H
   go_enter Try.func71, Try.ntmps71
   go_wp2_with (first | ((with_reducible refine gate_dst (N := 3) rfl ?_); refine box_event ?hg (N := 3) ?hd (cs := #[.int .i64 a0_0, .int .i64 a0_1, .int .i64 a0_2, .int .i64 a0_3]) (t := 23) ?hr ?_; (case hd => rfl); (case hg => rfl); (case hr => first | (go_simp; done) | (go_simp; rfl)); intro gb193 hg w25 hbox hb; have BK193 := Aside0.mk (hbox); have GW193 := Aside0.mk ((by rw [hg]; exact (below_size (hS HB.out)) : w.heap.size ≤ gb193)); have GE193 := Aside0.mk ((by rw [hg]; exact (below_size (hS HB.out)) : w.heap.size ≤ gb193)); replace HB := Aside0.mk (below_step (hS HB.out) hb); clear hb hbox hg) | ((with_reducible refine gate_dst (N := 4) rfl ?_); refine box_event ?hg (N := 4) ?hd (cs := #[.int .i64 a1_0, .int .i64 a1_1]) (t := 28) ?hr ?_; (case hd => rfl); (case hg => rfl); (case hr => first | (go_simp; done) | (go_simp; rfl)); intro gb194 hg w26 hbox hb; have BK194 := Aside0.mk (hbox); have GW194 := Aside0.mk ((by rw [hg]; exact (below_size (hS HB.out)) : w.heap.size ≤ gb194)); have GE194 := Aside0.mk ((by rw [hg]; exact (below_size (hS HB.out)) : w.heap.size ≤ gb194)); replace HB := Aside0.mk (below_step (hS HB.out) hb); have NB193_194 := Aside0.mk ((by rw [hg]; exact Nat.ne_of_lt (blk_lt (bS BK193.out)) : gb193 ≠ gb194)); have NB194_193 := Aside0.mk ((by rw [hg]; exact Nat.ne_of_gt (blk_lt (bS BK193.out)) : gb194 ≠ gb193)); replace BK193 := Aside0.mk (blk_below (bS BK193.out) hb); clear hb hbox hg; have hnb27 := NB193_194.out; have hnc27 := NB194_193.out; have hcz28_0 : w26.cell? ⟨gb193, 0, none⟩ = some (.int .i64 a0_0) := (blk_cell BK193.out 0).trans rfl; have hcz28_1 : w26.cell? ⟨gb193, 1, none⟩ = some (.int .i64 a0_1) := (blk_cell BK193.out 1).trans rfl; have hcz28_2 : w26.cell? ⟨gb193, 2, none⟩ = some (.int .i64 a0_2) := (blk_cell BK193.out 2).trans rfl; have hcz28_3 : w26.cell? ⟨gb193, 3, none⟩ = some (.int .i64 a0_3) := (blk_cell BK193.out 3).trans rfl; have hfz28_0 := blk_frozen BK193.out 0; have hfz28_1 := blk_frozen BK193.out 1; have hfz28_2 := blk_frozen BK193.out 2; have hfz28_3 := blk_frozen BK193.out 3) | ((with_reducible refine gate_callee (f := 41) rfl ?_); refine goesL_ (some 8) rfl rfl Try.func41 (by kernel_rfl) rfl #[.agg #[.int .i64 a0_0, .int .i64 a0_1, .int .i64 a0_2, .int .i64 a0_3]] rfl (by (try simp only [List.map_toArray, List.map_cons, List.map_nil]); first | done | rfl | (simp only [List.length_drop, List.length_take]; rfl)) ?_; (with_reducible refine (pace_May.calls a0_0 a0_1 a0_2 a0_3 true _ A4.out).mono ?_); rintro e w29 ⟨rfl, hb⟩; refine ⟨_, rfl, ?_⟩; replace BK193 := Aside0.mk (blk_below (bS BK193.out) hb); replace BK194 := Aside0.mk (blk_below (bS BK194.out) hb); replace HB := Aside0.mk (below_step (hS HB.out) hb); (try clear hb); (try clear hb2); (try clear hk); (try clear hi); have hcz30_0 : w29.cell? ⟨gb194, 0, none⟩ = some (.int .i64 a1_0) := (blk_cell BK194.out 0).trans rfl; have hcz30_1 : w29.cell? ⟨gb194, 1, none⟩ = some (.int .i64 a1_1) := (blk_cell BK194.out 1).trans rfl; have hfz30_0 := blk_frozen BK194.out 0; have hfz30_1 := blk_frozen BK194.out 1; have hcz31_0 : w29.cell? ⟨gb193, 0, none⟩ = some (.int .i64 a0_0) := (blk_cell BK193.out 0).trans rfl; have hcz31_1 : w29.cell? ⟨gb193, 1, none⟩ = some (.int .i64 a0_1) := (blk_cell BK193.out 1).trans rfl; have hcz31_2 : w29.cell? ⟨gb193, 2, none⟩ = some (.int .i64 a0_2) := (blk_cell BK193.out 2).trans rfl; have hcz31_3 : w29.cell? ⟨gb193, 3, none⟩ = some (.int .i64 a0_3) := (blk_cell BK193.out 3).trans rfl; have hfz31_0 := blk_frozen BK193.out 0; have hfz31_1 := blk_frozen BK193.out 1; have hfz31_2 := blk_frozen BK193.out 2; have hfz31_3 := blk_frozen BK193.out 3) | (go_at_call 60; (with_reducible refine (pace_within.calls a1_0 0 a0_1 false _ A6.out).mono ?_); rintro e w' ⟨rfl, ⟨nd, rfl⟩⟩))
   go_ret
   exact ⟨by first | rfl | (simp [errW_none, errW_some] <;> rfl) | (simp [*, errW_none, errW_some] <;> rfl), by repeat (first | (with_reducible first | exact HB.out | apply below_alloc | apply pw_below_drewN | apply below_drew1 | refine below_set ?_ GE193.out | refine below_set ?_ GE194.out) | exact HB.out)⟩
 ·replace c5 := Bool.eq_false_iff.mpr c5
  subst c5
  have H1 : (some false) = some r := by rw [if_neg (show ¬ (false = true) by decide)] at H; exact H
  clear H
  have H := H1
  clear H1
  obtain rfl := Option.some.inj H
  go_enter Try.func71, Try.ntmps71
  go_wp2_with (first | ((with_reducible refine gate_dst (N := 3) rfl ?_); refine box_event ?hg (N := 3) ?hd (cs := #[.int .i64 a0_0, .int .i64 a0_1, .int .i64 a0_2, .int .i64 a0_3]) (t := 23) ?hr ?_; (case hd => rfl); (case hg => rfl); (case hr => first | (go_simp; done) | (go_simp; rfl)); intro gb193 hg w32 hbox hb; have BK193 := Aside0.mk (hbox); have GW193 := Aside0.mk ((by rw [hg]; exact (below_size (hS HB.out)) : w.heap.size ≤ gb193)); have GE193 := Aside0.mk ((by rw [hg]; exact (below_size (hS HB.out)) : w.heap.size ≤ gb193)); replace HB := Aside0.mk (below_step (hS HB.out) hb); clear hb hbox hg) | ((with_reducible refine gate_dst (N := 4) rfl ?_); refine box_event ?hg (N := 4) ?hd (cs := #[.int .i64 a1_0, .int .i64 a1_1]) (t := 28) ?hr ?_; (case hd => rfl); (case hg => rfl); (case hr => first | (go_simp; done) | (go_simp; rfl)); intro gb194 hg w33 hbox hb; have BK194 := Aside0.mk (hbox); have GW194 := Aside0.mk ((by rw [hg]; exact (below_size (hS HB.out)) : w.heap.size ≤ gb194)); have GE194 := Aside0.mk ((by rw [hg]; exact (below_size (hS HB.out)) : w.heap.size ≤ gb194)); replace HB := Aside0.mk (below_step (hS HB.out) hb); have NB193_194 := Aside0.mk ((by rw [hg]; exact Nat.ne_of_lt (blk_lt (bS BK193.out)) : gb193 ≠ gb194)); have NB194_193 := Aside0.mk ((by rw [hg]; exact Nat.ne_of_gt (blk_lt (bS BK193.out)) : gb194 ≠ gb193)); replace BK193 := Aside0.mk (blk_below (bS BK193.out) hb); clear hb hbox hg; have hnb34 := NB193_194.out; have hnc34 := NB194_193.out; have hcz35_0 : w33.cell? ⟨gb193, 0, none⟩ = some (.int .i64 a0_0) := (blk_cell BK193.out 0).trans rfl; have hcz35_1 : w33.cell? ⟨gb193, 1, none⟩ = some (.int .i64 a0_1) := (blk_cell BK193.out 1).trans rfl; have hcz35_2 : w33.cell? ⟨gb193, 2, none⟩ = some (.int .i64 a0_2) := (blk_cell BK193.out 2).trans rfl; have hcz35_3 : w33.cell? ⟨gb193, 3, none⟩ = some (.int .i64 a0_3) := (blk_cell BK193.out 3).trans rfl; have hfz35_0 := blk_frozen BK193.out 0; have hfz35_1 := blk_frozen BK193.out 1; have hfz35_2 := blk_frozen BK193.out 2; have hfz35_3 := blk_frozen BK193.out 3) | ((with_reducible refine gate_callee (f := 41) rfl ?_); refine goesL_ (some 8) rfl rfl Try.func41 (by kernel_rfl) rfl #[.agg #[.int .i64 a0_0, .int .i64 a0_1, .int .i64 a0_2, .int .i64 a0_3]] rfl (by (try simp only [List.map_toArray, List.map_cons, List.map_nil]); first | done | rfl | (simp only [List.length_drop, List.length_take]; rfl)) ?_; (with_reducible refine (pace_May.calls a0_0 a0_1 a0_2 a0_3 false _ A4.out).mono ?_); rintro e w36 ⟨rfl, hb⟩; refine ⟨_, rfl, ?_⟩; replace BK193 := Aside0.mk (blk_below (bS BK193.out) hb); replace BK194 := Aside0.mk (blk_below (bS BK194.out) hb); replace HB := Aside0.mk (below_step (hS HB.out) hb); (try clear hb); (try clear hb2); (try clear hk); (try clear hi)))
  go_ret
  exact ⟨by first | rfl | (simp [errW_none, errW_some] <;> rfl) | (simp [*, errW_none, errW_some] <;> rfl), by repeat (first | (with_reducible first | exact HB.out | apply below_alloc | apply pw_below_drewN | apply below_drew1 | refine below_set ?_ GE193.out | refine below_set ?_ GE194.out) | exact HB.out)⟩

-- NOT PRINTED: function 73 (pace_bucket)

-- NOT PRINTED: function 74 (pace_point)

-- NOT PRINTED: function 72 (pace_later)

-- NOT PRINTED: function 51 (pace_Take)

-- NOT PRINTED: function 52 (link_talk_next)

-- NOT PRINTED: function 24 (link_Emit)

-- NOT PRINTED: function 11 (rollcalllaw18_live)

/-! ### rollcallref16_Time: function 28 -/
def rollcallref16_Time.f (a0 : Int) : Option (Bool) := if a0 ≥ 0 then (some (decide (a0 ≤ 1099511627776))) else (some false)
set_option maxHeartbeats 8000000 in
set_option maxRecDepth 100000 in
theorem rollcallref16_Time.calls (a0 : Int) (r : Bool) (w : World) (h : rollcallref16_Time.f a0 = some r) :
  Calls Try.prog 28 #[.int .i64 a0] w fun e w' => e = .returned (.bool r) ∧ Drawn0 w w' := by
 have H : (if a0 ≥ 0 then (some (decide (a0 ≤ 1099511627776))) else (some false)) = some r := h
 clear h
 by_cases c2 : a0 ≥ 0
 ·rw [if_pos c2] at H
  have c2b0 : decide (0 ≤ a0) = true := decide_eq_true c2
  clear c2
  obtain rfl := Option.some.inj H
  go_enter Try.func28, Try.ntmps28
  go_wp2
  go_ret
  exact ⟨by first | rfl | (simp; done) | (simp [*]; done), by repeat (first | exact Drawn0.refl _ | apply Drawn0.step)⟩
 ·rw [if_neg c2] at H
  have c2b0 : decide (0 ≤ a0) = false := decide_eq_false c2
  clear c2
  obtain rfl := Option.some.inj H
  go_enter Try.func28, Try.ntmps28
  go_wp2
  go_ret
  exact ⟨by first | rfl | (simp; done) | (simp [*]; done), by repeat (first | exact Drawn0.refl _ | apply Drawn0.step)⟩

/-! ### rollcallref16_May: function 35 -/
def rollcallref16_May.f (a0_0 : Int) (a0_1 : Int) (a0_2 : Int) (a0_3 : Int) : Option (Bool) := if a0_0 ≥ 1 then (if a0_0 ≤ 16 then (if a0_1 ≥ 1 then (if a0_1 ≤ 64 then (if a0_2 ≥ 1 then (if a0_2 ≤ 16 then (if a0_3 ≥ 1 then (some (decide (a0_3 ≤ 1000))) else (some false)) else (some false)) else (some false)) else (some false)) else (some false)) else (some false)) else (some false)
set_option maxHeartbeats 8000000 in
set_option maxRecDepth 100000 in
theorem rollcallref16_May.calls (a0_0 : Int) (a0_1 : Int) (a0_2 : Int) (a0_3 : Int) (r : Bool) (w : World) (h : rollcallref16_May.f a0_0 a0_1 a0_2 a0_3 = some r) :
  Calls Try.prog 35 #[.agg #[.int .i64 a0_0, .int .i64 a0_1, .int .i64 a0_2, .int .i64 a0_3]] w fun e w' => e = .returned (.bool r) ∧ Below w.heap.size w w' := by
 have hu23 := Try.underlying23
 have HB := Aside0.mk (Below.refl w.heap.size w)
 have H : (if a0_0 ≥ 1 then (if a0_0 ≤ 16 then (if a0_1 ≥ 1 then (if a0_1 ≤ 64 then (if a0_2 ≥ 1 then (if a0_2 ≤ 16 then (if a0_3 ≥ 1 then (some (decide (a0_3 ≤ 1000))) else (some false)) else (some false)) else (some false)) else (some false)) else (some false)) else (some false)) else (some false)) = some r := h
 clear h
 by_cases c2 : a0_0 ≥ 1
 ·rw [if_pos c2] at H
  have c2b0 : decide (1 ≤ a0_0) = true := decide_eq_true c2
  clear c2
  by_cases c3 : a0_0 ≤ 16
  ·rw [if_pos c3] at H
   have c3b0 : decide (a0_0 ≤ 16) = true := decide_eq_true c3
   clear c3
   by_cases c4 : a0_1 ≥ 1
   ·rw [if_pos c4] at H
    have c4b0 : decide (1 ≤ a0_1) = true := decide_eq_true c4
    clear c4
    by_cases c5 : a0_1 ≤ 64
    ·rw [if_pos c5] at H
     have c5b0 : decide (a0_1 ≤ 64) = true := decide_eq_true c5
     clear c5
     by_cases c6 : a0_2 ≥ 1
     ·rw [if_pos c6] at H
      have c6b0 : decide (1 ≤ a0_2) = true := decide_eq_true c6
      clear c6
      by_cases c7 : a0_2 ≤ 16
      ·rw [if_pos c7] at H
       have c7b0 : decide (a0_2 ≤ 16) = true := decide_eq_true c7
       clear c7
       by_cases c8 : a0_3 ≥ 1
       ·rw [if_pos c8] at H
        have c8b0 : decide (1 ≤ a0_3) = true := decide_eq_true c8
        clear c8
        obtain rfl := Option.some.inj H
        go_enter Try.func35, Try.ntmps35
        go_wp2_with (first | ((with_reducible refine gate_dst (N := 1) rfl ?_); refine box_event ?hg (N := 1) ?hd (cs := #[.int .i64 a0_0, .int .i64 a0_1, .int .i64 a0_2, .int .i64 a0_3]) (t := 23) ?hr ?_; (case hd => rfl); (case hg => rfl); (case hr => first | (go_simp; done) | (go_simp; rfl)); intro gb242 hg w9 hbox hb; have BK242 := Aside0.mk (hbox); have GW242 := Aside0.mk ((by rw [hg]; exact (below_size (hS HB.out)) : w.heap.size ≤ gb242)); have GE242 := Aside0.mk ((by rw [hg]; exact (below_size (hS HB.out)) : w.heap.size ≤ gb242)); replace HB := Aside0.mk (below_step (hS HB.out) hb); clear hb hbox hg; have hcz10_0 : w9.cell? ⟨gb242, 0, none⟩ = some (.int .i64 a0_0) := (blk_cell BK242.out 0).trans rfl; have hcz10_1 : w9.cell? ⟨gb242, 1, none⟩ = some (.int .i64 a0_1) := (blk_cell BK242.out 1).trans rfl; have hcz10_2 : w9.cell? ⟨gb242, 2, none⟩ = some (.int .i64 a0_2) := (blk_cell BK242.out 2).trans rfl; have hcz10_3 : w9.cell? ⟨gb242, 3, none⟩ = some (.int .i64 a0_3) := (blk_cell BK242.out 3).trans rfl; have hfz10_0 := blk_frozen BK242.out 0; have hfz10_1 := blk_frozen BK242.out 1; have hfz10_2 := blk_frozen BK242.out 2; have hfz10_3 := blk_frozen BK242.out 3))
        go_ret
        exact ⟨by first | rfl | (simp [errW_none, errW_some] <;> rfl) | (simp [*, errW_none, errW_some] <;> rfl), by repeat (first | (with_reducible first | exact HB.out | apply below_alloc | apply pw_below_drewN | apply below_drew1 | refine below_set ?_ GE242.out) | exact HB.out)⟩
       ·rw [if_neg c8] at H
        have c8b0 : decide (1 ≤ a0_3) = false := decide_eq_false c8
        clear c8
        obtain rfl := Option.some.inj H
        go_enter Try.func35, Try.ntmps35
        go_wp2_with (first | ((with_reducible refine gate_dst (N := 1) rfl ?_); refine box_event ?hg (N := 1) ?hd (cs := #[.int .i64 a0_0, .int .i64 a0_1, .int .i64 a0_2, .int .i64 a0_3]) (t := 23) ?hr ?_; (case hd => rfl); (case hg => rfl); (case hr => first | (go_simp; done) | (go_simp; rfl)); intro gb242 hg w11 hbox hb; have BK242 := Aside0.mk (hbox); have GW242 := Aside0.mk ((by rw [hg]; exact (below_size (hS HB.out)) : w.heap.size ≤ gb242)); have GE242 := Aside0.mk ((by rw [hg]; exact (below_size (hS HB.out)) : w.heap.size ≤ gb242)); replace HB := Aside0.mk (below_step (hS HB.out) hb); clear hb hbox hg; have hcz12_0 : w11.cell? ⟨gb242, 0, none⟩ = some (.int .i64 a0_0) := (blk_cell BK242.out 0).trans rfl; have hcz12_1 : w11.cell? ⟨gb242, 1, none⟩ = some (.int .i64 a0_1) := (blk_cell BK242.out 1).trans rfl; have hcz12_2 : w11.cell? ⟨gb242, 2, none⟩ = some (.int .i64 a0_2) := (blk_cell BK242.out 2).trans rfl; have hcz12_3 : w11.cell? ⟨gb242, 3, none⟩ = some (.int .i64 a0_3) := (blk_cell BK242.out 3).trans rfl; have hfz12_0 := blk_frozen BK242.out 0; have hfz12_1 := blk_frozen BK242.out 1; have hfz12_2 := blk_frozen BK242.out 2; have hfz12_3 := blk_frozen BK242.out 3))
        go_ret
        exact ⟨by first | rfl | (simp [errW_none, errW_some] <;> rfl) | (simp [*, errW_none, errW_some] <;> rfl), by repeat (first | (with_reducible first | exact HB.out | apply below_alloc | apply pw_below_drewN | apply below_drew1 | refine below_set ?_ GE242.out) | exact HB.out)⟩
      ·rw [if_neg c7] at H
       have c7b0 : decide (a0_2 ≤ 16) = false := decide_eq_false c7
       clear c7
       obtain rfl := Option.some.inj H
       go_enter Try.func35, Try.ntmps35
       go_wp2_with (first | ((with_reducible refine gate_dst (N := 1) rfl ?_); refine box_event ?hg (N := 1) ?hd (cs := #[.int .i64 a0_0, .int .i64 a0_1, .int .i64 a0_2, .int .i64 a0_3]) (t := 23) ?hr ?_; (case hd => rfl); (case hg => rfl); (case hr => first | (go_simp; done) | (go_simp; rfl)); intro gb242 hg w13 hbox hb; have BK242 := Aside0.mk (hbox); have GW242 := Aside0.mk ((by rw [hg]; exact (below_size (hS HB.out)) : w.heap.size ≤ gb242)); have GE242 := Aside0.mk ((by rw [hg]; exact (below_size (hS HB.out)) : w.heap.size ≤ gb242)); replace HB := Aside0.mk (below_step (hS HB.out) hb); clear hb hbox hg; have hcz14_0 : w13.cell? ⟨gb242, 0, none⟩ = some (.int .i64 a0_0) := (blk_cell BK242.out 0).trans rfl; have hcz14_1 : w13.cell? ⟨gb242, 1, none⟩ = some (.int .i64 a0_1) := (blk_cell BK242.out 1).trans rfl; have hcz14_2 : w13.cell? ⟨gb242, 2, none⟩ = some (.int .i64 a0_2) := (blk_cell BK242.out 2).trans rfl; have hcz14_3 : w13.cell? ⟨gb242, 3, none⟩ = some (.int .i64 a0_3) := (blk_cell BK242.out 3).trans rfl; have hfz14_0 := blk_frozen BK242.out 0; have hfz14_1 := blk_frozen BK242.out 1; have hfz14_2 := blk_frozen BK242.out 2; have hfz14_3 := blk_frozen BK242.out 3))
       go_ret
       exact ⟨by first | rfl | (simp [errW_none, errW_some] <;> rfl) | (simp [*, errW_none, errW_some] <;> rfl), by repeat (first | (with_reducible first | exact HB.out | apply below_alloc | apply pw_below_drewN | apply below_drew1 | refine below_set ?_ GE242.out) | exact HB.out)⟩
     ·rw [if_neg c6] at H
      have c6b0 : decide (1 ≤ a0_2) = false := decide_eq_false c6
      clear c6
      obtain rfl := Option.some.inj H
      go_enter Try.func35, Try.ntmps35
      go_wp2_with (first | ((with_reducible refine gate_dst (N := 1) rfl ?_); refine box_event ?hg (N := 1) ?hd (cs := #[.int .i64 a0_0, .int .i64 a0_1, .int .i64 a0_2, .int .i64 a0_3]) (t := 23) ?hr ?_; (case hd => rfl); (case hg => rfl); (case hr => first | (go_simp; done) | (go_simp; rfl)); intro gb242 hg w15 hbox hb; have BK242 := Aside0.mk (hbox); have GW242 := Aside0.mk ((by rw [hg]; exact (below_size (hS HB.out)) : w.heap.size ≤ gb242)); have GE242 := Aside0.mk ((by rw [hg]; exact (below_size (hS HB.out)) : w.heap.size ≤ gb242)); replace HB := Aside0.mk (below_step (hS HB.out) hb); clear hb hbox hg; have hcz16_0 : w15.cell? ⟨gb242, 0, none⟩ = some (.int .i64 a0_0) := (blk_cell BK242.out 0).trans rfl; have hcz16_1 : w15.cell? ⟨gb242, 1, none⟩ = some (.int .i64 a0_1) := (blk_cell BK242.out 1).trans rfl; have hcz16_2 : w15.cell? ⟨gb242, 2, none⟩ = some (.int .i64 a0_2) := (blk_cell BK242.out 2).trans rfl; have hcz16_3 : w15.cell? ⟨gb242, 3, none⟩ = some (.int .i64 a0_3) := (blk_cell BK242.out 3).trans rfl; have hfz16_0 := blk_frozen BK242.out 0; have hfz16_1 := blk_frozen BK242.out 1; have hfz16_2 := blk_frozen BK242.out 2; have hfz16_3 := blk_frozen BK242.out 3))
      go_ret
      exact ⟨by first | rfl | (simp [errW_none, errW_some] <;> rfl) | (simp [*, errW_none, errW_some] <;> rfl), by repeat (first | (with_reducible first | exact HB.out | apply below_alloc | apply pw_below_drewN | apply below_drew1 | refine below_set ?_ GE242.out) | exact HB.out)⟩
    ·rw [if_neg c5] at H
     have c5b0 : decide (a0_1 ≤ 64) = false := decide_eq_false c5
     clear c5
     obtain rfl := Option.some.inj H
     go_enter Try.func35, Try.ntmps35
     go_wp2_with (first | ((with_reducible refine gate_dst (N := 1) rfl ?_); refine box_event ?hg (N := 1) ?hd (cs := #[.int .i64 a0_0, .int .i64 a0_1, .int .i64 a0_2, .int .i64 a0_3]) (t := 23) ?hr ?_; (case hd => rfl); (case hg => rfl); (case hr => first | (go_simp; done) | (go_simp; rfl)); intro gb242 hg w17 hbox hb; have BK242 := Aside0.mk (hbox); have GW242 := Aside0.mk ((by rw [hg]; exact (below_size (hS HB.out)) : w.heap.size ≤ gb242)); have GE242 := Aside0.mk ((by rw [hg]; exact (below_size (hS HB.out)) : w.heap.size ≤ gb242)); replace HB := Aside0.mk (below_step (hS HB.out) hb); clear hb hbox hg; have hcz18_0 : w17.cell? ⟨gb242, 0, none⟩ = some (.int .i64 a0_0) := (blk_cell BK242.out 0).trans rfl; have hcz18_1 : w17.cell? ⟨gb242, 1, none⟩ = some (.int .i64 a0_1) := (blk_cell BK242.out 1).trans rfl; have hcz18_2 : w17.cell? ⟨gb242, 2, none⟩ = some (.int .i64 a0_2) := (blk_cell BK242.out 2).trans rfl; have hcz18_3 : w17.cell? ⟨gb242, 3, none⟩ = some (.int .i64 a0_3) := (blk_cell BK242.out 3).trans rfl; have hfz18_0 := blk_frozen BK242.out 0; have hfz18_1 := blk_frozen BK242.out 1; have hfz18_2 := blk_frozen BK242.out 2; have hfz18_3 := blk_frozen BK242.out 3))
     go_ret
     exact ⟨by first | rfl | (simp [errW_none, errW_some] <;> rfl) | (simp [*, errW_none, errW_some] <;> rfl), by repeat (first | (with_reducible first | exact HB.out | apply below_alloc | apply pw_below_drewN | apply below_drew1 | refine below_set ?_ GE242.out) | exact HB.out)⟩
   ·rw [if_neg c4] at H
    have c4b0 : decide (1 ≤ a0_1) = false := decide_eq_false c4
    clear c4
    obtain rfl := Option.some.inj H
    go_enter Try.func35, Try.ntmps35
    go_wp2_with (first | ((with_reducible refine gate_dst (N := 1) rfl ?_); refine box_event ?hg (N := 1) ?hd (cs := #[.int .i64 a0_0, .int .i64 a0_1, .int .i64 a0_2, .int .i64 a0_3]) (t := 23) ?hr ?_; (case hd => rfl); (case hg => rfl); (case hr => first | (go_simp; done) | (go_simp; rfl)); intro gb242 hg w19 hbox hb; have BK242 := Aside0.mk (hbox); have GW242 := Aside0.mk ((by rw [hg]; exact (below_size (hS HB.out)) : w.heap.size ≤ gb242)); have GE242 := Aside0.mk ((by rw [hg]; exact (below_size (hS HB.out)) : w.heap.size ≤ gb242)); replace HB := Aside0.mk (below_step (hS HB.out) hb); clear hb hbox hg; have hcz20_0 : w19.cell? ⟨gb242, 0, none⟩ = some (.int .i64 a0_0) := (blk_cell BK242.out 0).trans rfl; have hcz20_1 : w19.cell? ⟨gb242, 1, none⟩ = some (.int .i64 a0_1) := (blk_cell BK242.out 1).trans rfl; have hcz20_2 : w19.cell? ⟨gb242, 2, none⟩ = some (.int .i64 a0_2) := (blk_cell BK242.out 2).trans rfl; have hcz20_3 : w19.cell? ⟨gb242, 3, none⟩ = some (.int .i64 a0_3) := (blk_cell BK242.out 3).trans rfl; have hfz20_0 := blk_frozen BK242.out 0; have hfz20_1 := blk_frozen BK242.out 1; have hfz20_2 := blk_frozen BK242.out 2; have hfz20_3 := blk_frozen BK242.out 3))
    go_ret
    exact ⟨by first | rfl | (simp [errW_none, errW_some] <;> rfl) | (simp [*, errW_none, errW_some] <;> rfl), by repeat (first | (with_reducible first | exact HB.out | apply below_alloc | apply pw_below_drewN | apply below_drew1 | refine below_set ?_ GE242.out) | exact HB.out)⟩
  ·rw [if_neg c3] at H
   have c3b0 : decide (a0_0 ≤ 16) = false := decide_eq_false c3
   clear c3
   obtain rfl := Option.some.inj H
   go_enter Try.func35, Try.ntmps35
   go_wp2_with (first | ((with_reducible refine gate_dst (N := 1) rfl ?_); refine box_event ?hg (N := 1) ?hd (cs := #[.int .i64 a0_0, .int .i64 a0_1, .int .i64 a0_2, .int .i64 a0_3]) (t := 23) ?hr ?_; (case hd => rfl); (case hg => rfl); (case hr => first | (go_simp; done) | (go_simp; rfl)); intro gb242 hg w21 hbox hb; have BK242 := Aside0.mk (hbox); have GW242 := Aside0.mk ((by rw [hg]; exact (below_size (hS HB.out)) : w.heap.size ≤ gb242)); have GE242 := Aside0.mk ((by rw [hg]; exact (below_size (hS HB.out)) : w.heap.size ≤ gb242)); replace HB := Aside0.mk (below_step (hS HB.out) hb); clear hb hbox hg; have hcz22_0 : w21.cell? ⟨gb242, 0, none⟩ = some (.int .i64 a0_0) := (blk_cell BK242.out 0).trans rfl; have hcz22_1 : w21.cell? ⟨gb242, 1, none⟩ = some (.int .i64 a0_1) := (blk_cell BK242.out 1).trans rfl; have hcz22_2 : w21.cell? ⟨gb242, 2, none⟩ = some (.int .i64 a0_2) := (blk_cell BK242.out 2).trans rfl; have hcz22_3 : w21.cell? ⟨gb242, 3, none⟩ = some (.int .i64 a0_3) := (blk_cell BK242.out 3).trans rfl; have hfz22_0 := blk_frozen BK242.out 0; have hfz22_1 := blk_frozen BK242.out 1; have hfz22_2 := blk_frozen BK242.out 2; have hfz22_3 := blk_frozen BK242.out 3))
   go_ret
   exact ⟨by first | rfl | (simp [errW_none, errW_some] <;> rfl) | (simp [*, errW_none, errW_some] <;> rfl), by repeat (first | (with_reducible first | exact HB.out | apply below_alloc | apply pw_below_drewN | apply below_drew1 | refine below_set ?_ GE242.out) | exact HB.out)⟩
 ·rw [if_neg c2] at H
  have c2b0 : decide (1 ≤ a0_0) = false := decide_eq_false c2
  clear c2
  obtain rfl := Option.some.inj H
  go_enter Try.func35, Try.ntmps35
  go_wp2_with (first | ((with_reducible refine gate_dst (N := 1) rfl ?_); refine box_event ?hg (N := 1) ?hd (cs := #[.int .i64 a0_0, .int .i64 a0_1, .int .i64 a0_2, .int .i64 a0_3]) (t := 23) ?hr ?_; (case hd => rfl); (case hg => rfl); (case hr => first | (go_simp; done) | (go_simp; rfl)); intro gb242 hg w23 hbox hb; have BK242 := Aside0.mk (hbox); have GW242 := Aside0.mk ((by rw [hg]; exact (below_size (hS HB.out)) : w.heap.size ≤ gb242)); have GE242 := Aside0.mk ((by rw [hg]; exact (below_size (hS HB.out)) : w.heap.size ≤ gb242)); replace HB := Aside0.mk (below_step (hS HB.out) hb); clear hb hbox hg; have hcz24_0 : w23.cell? ⟨gb242, 0, none⟩ = some (.int .i64 a0_0) := (blk_cell BK242.out 0).trans rfl; have hcz24_1 : w23.cell? ⟨gb242, 1, none⟩ = some (.int .i64 a0_1) := (blk_cell BK242.out 1).trans rfl; have hcz24_2 : w23.cell? ⟨gb242, 2, none⟩ = some (.int .i64 a0_2) := (blk_cell BK242.out 2).trans rfl; have hcz24_3 : w23.cell? ⟨gb242, 3, none⟩ = some (.int .i64 a0_3) := (blk_cell BK242.out 3).trans rfl; have hfz24_0 := blk_frozen BK242.out 0; have hfz24_1 := blk_frozen BK242.out 1; have hfz24_2 := blk_frozen BK242.out 2; have hfz24_3 := blk_frozen BK242.out 3))
  go_ret
  exact ⟨by first | rfl | (simp [errW_none, errW_some] <;> rfl) | (simp [*, errW_none, errW_some] <;> rfl), by repeat (first | (with_reducible first | exact HB.out | apply below_alloc | apply pw_below_drewN | apply below_drew1 | refine below_set ?_ GE242.out) | exact HB.out)⟩

/-! ### rollcallref16_New: function 39 -/
/-! ### rollcallref18_New: function 13 -/
/-! ### rollcallref16_One: function 44 -/
def rollcallref16_One.f (a0_0 : Int) (a0_1 : Int) (a0_2 : Int) (a0_3 : Int) (a1_0 : Int) (a1_1 : Int) : Option (Bool) := (rollcallref16_May.f a0_0 a0_1 a0_2 a0_3).bind fun t255 => (if t255 = true then (if a1_0 ≥ 0 then (if a1_0 ≤ a0_1 then ((rollcallref16_Time.f a1_1).bind fun t256 => (some t256)) else (some false)) else (some false)) else (some false))
set_option maxHeartbeats 8000000 in
set_option maxRecDepth 100000 in
theorem rollcallref16_One.calls (a0_0 : Int) (a0_1 : Int) (a0_2 : Int) (a0_3 : Int) (a1_0 : Int) (a1_1 : Int) (r : Bool) (w : World) (h : rollcallref16_One.f a0_0 a0_1 a0_2 a0_3 a1_0 a1_1 = some r) :
  Calls Try.prog 44 #[.agg #[.int .i64 a0_0, .int .i64 a0_1, .int .i64 a0_2, .int .i64 a0_3], .agg #[.int .i64 a1_0, .int .i64 a1_1]] w fun e w' => e = .returned (.bool r) ∧ Below w.heap.size w w' := by
 have hu23 := Try.underlying23
 have hu28 := Try.underlying28
 have HB := Aside0.mk (Below.refl w.heap.size w)
 have H : ((rollcallref16_May.f a0_0 a0_1 a0_2 a0_3).bind fun t255 => (if t255 = true then (if a1_0 ≥ 0 then (if a1_0 ≤ a0_1 then ((rollcallref16_Time.f a1_1).bind fun t256 => (some t256)) else (some false)) else (some false)) else (some false))) = some r := h
 clear h
 replace H := Option.bind_eq_some_iff.mp H
 obtain ⟨t255, A30, H⟩ := H
 replace H : (if t255 = true then (if a1_0 ≥ 0 then (if a1_0 ≤ a0_1 then ((rollcallref16_Time.f a1_1).bind fun t256 => (some t256)) else (some false)) else (some false)) else (some false)) = some r := H
 have A3 := Aside0.mk A30
 clear A30
 by_cases c4 : t255 = true
 ·subst c4
  have H1 : (if a1_0 ≥ 0 then (if a1_0 ≤ a0_1 then ((rollcallref16_Time.f a1_1).bind fun t256 => (some t256)) else (some false)) else (some false)) = some r := by rw [if_pos rfl] at H; exact H
  clear H
  have H := H1
  clear H1
  by_cases c5 : a1_0 ≥ 0
  ·rw [if_pos c5] at H
   have c5b0 : decide (0 ≤ a1_0) = true := decide_eq_true c5
   clear c5
   by_cases c6 : a1_0 ≤ a0_1
   ·rw [if_pos c6] at H
    have c6b0 : decide (a1_0 ≤ a0_1) = true := decide_eq_true c6
    clear c6
    replace H := Option.bind_eq_some_iff.mp H
    obtain ⟨t256, A70, H⟩ := H
    replace H : (some t256) = some r := H
    have A7 := Aside0.mk A70
    clear A70
    obtain rfl := Option.some.inj H
    go_enter Try.func44, Try.ntmps44
    go_wp2_with (first | ((with_reducible refine gate_dst (N := 2) rfl ?_); refine box_event ?hg (N := 2) ?hd (cs := #[.int .i64 a0_0, .int .i64 a0_1, .int .i64 a0_2, .int .i64 a0_3]) (t := 23) ?hr ?_; (case hd => rfl); (case hg => rfl); (case hr => first | (go_simp; done) | (go_simp; rfl)); intro gb253 hg w8 hbox hb; have BK253 := Aside0.mk (hbox); have GW253 := Aside0.mk ((by rw [hg]; exact (below_size (hS HB.out)) : w.heap.size ≤ gb253)); have GE253 := Aside0.mk ((by rw [hg]; exact (below_size (hS HB.out)) : w.heap.size ≤ gb253)); replace HB := Aside0.mk (below_step (hS HB.out) hb); clear hb hbox hg) | ((with_reducible refine gate_dst (N := 3) rfl ?_); refine box_event ?hg (N := 3) ?hd (cs := #[.int .i64 a1_0, .int .i64 a1_1]) (t := 28) ?hr ?_; (case hd => rfl); (case hg => rfl); (case hr => first | (go_simp; done) | (go_simp; rfl)); intro gb254 hg w9 hbox hb; have BK254 := Aside0.mk (hbox); have GW254 := Aside0.mk ((by rw [hg]; exact (below_size (hS HB.out)) : w.heap.size ≤ gb254)); have GE254 := Aside0.mk ((by rw [hg]; exact (below_size (hS HB.out)) : w.heap.size ≤ gb254)); replace HB := Aside0.mk (below_step (hS HB.out) hb); have NB253_254 := Aside0.mk ((by rw [hg]; exact Nat.ne_of_lt (blk_lt (bS BK253.out)) : gb253 ≠ gb254)); have NB254_253 := Aside0.mk ((by rw [hg]; exact Nat.ne_of_gt (blk_lt (bS BK253.out)) : gb254 ≠ gb253)); replace BK253 := Aside0.mk (blk_below (bS BK253.out) hb); clear hb hbox hg; have hnb10 := NB253_254.out; have hnc10 := NB254_253.out; have hcz11_0 : w9.cell? ⟨gb253, 0, none⟩ = some (.int .i64 a0_0) := (blk_cell BK253.out 0).trans rfl; have hcz11_1 : w9.cell? ⟨gb253, 1, none⟩ = some (.int .i64 a0_1) := (blk_cell BK253.out 1).trans rfl; have hcz11_2 : w9.cell? ⟨gb253, 2, none⟩ = some (.int .i64 a0_2) := (blk_cell BK253.out 2).trans rfl; have hcz11_3 : w9.cell? ⟨gb253, 3, none⟩ = some (.int .i64 a0_3) := (blk_cell BK253.out 3).trans rfl; have hfz11_0 := blk_frozen BK253.out 0; have hfz11_1 := blk_frozen BK253.out 1; have hfz11_2 := blk_frozen BK253.out 2; have hfz11_3 := blk_frozen BK253.out 3) | ((with_reducible refine gate_callee (f := 35) rfl ?_); refine goesL_ (some 6) rfl rfl Try.func35 (by kernel_rfl) rfl #[.agg #[.int .i64 a0_0, .int .i64 a0_1, .int .i64 a0_2, .int .i64 a0_3]] rfl (by (try simp only [List.map_toArray, List.map_cons, List.map_nil]); first | done | rfl | (simp only [List.length_drop, List.length_take]; rfl)) ?_; (with_reducible refine (rollcallref16_May.calls a0_0 a0_1 a0_2 a0_3 true _ A3.out).mono ?_); rintro e w12 ⟨rfl, hb⟩; refine ⟨_, rfl, ?_⟩; replace BK253 := Aside0.mk (blk_below (bS BK253.out) hb); replace BK254 := Aside0.mk (blk_below (bS BK254.out) hb); replace HB := Aside0.mk (below_step (hS HB.out) hb); (try clear hb); (try clear hb2); (try clear hk); (try clear hi); have hcz13_0 : w12.cell? ⟨gb254, 0, none⟩ = some (.int .i64 a1_0) := (blk_cell BK254.out 0).trans rfl; have hcz13_1 : w12.cell? ⟨gb254, 1, none⟩ = some (.int .i64 a1_1) := (blk_cell BK254.out 1).trans rfl; have hfz13_0 := blk_frozen BK254.out 0; have hfz13_1 := blk_frozen BK254.out 1; have hcz14_0 : w12.cell? ⟨gb253, 0, none⟩ = some (.int .i64 a0_0) := (blk_cell BK253.out 0).trans rfl; have hcz14_1 : w12.cell? ⟨gb253, 1, none⟩ = some (.int .i64 a0_1) := (blk_cell BK253.out 1).trans rfl; have hcz14_2 : w12.cell? ⟨gb253, 2, none⟩ = some (.int .i64 a0_2) := (blk_cell BK253.out 2).trans rfl; have hcz14_3 : w12.cell? ⟨gb253, 3, none⟩ = some (.int .i64 a0_3) := (blk_cell BK253.out 3).trans rfl; have hfz14_0 := blk_frozen BK253.out 0; have hfz14_1 := blk_frozen BK253.out 1; have hfz14_2 := blk_frozen BK253.out 2; have hfz14_3 := blk_frozen BK253.out 3) | (go_at_call 28; (with_reducible refine (rollcallref16_Time.calls a1_1 t256 _ A7.out).mono ?_); rintro e w' ⟨rfl, ⟨nd, rfl⟩⟩))
    go_ret
    exact ⟨by first | rfl | (simp [errW_none, errW_some] <;> rfl) | (simp [*, errW_none, errW_some] <;> rfl), by repeat (first | (with_reducible first | exact HB.out | apply below_alloc | apply pw_below_drewN | apply below_drew1 | refine below_set ?_ GE253.out | refine below_set ?_ GE254.out) | exact HB.out)⟩
   ·rw [if_neg c6] at H
    have c6b0 : decide (a1_0 ≤ a0_1) = false := decide_eq_false c6
    clear c6
    obtain rfl := Option.some.inj H
    go_enter Try.func44, Try.ntmps44
    go_wp2_with (first | ((with_reducible refine gate_dst (N := 2) rfl ?_); refine box_event ?hg (N := 2) ?hd (cs := #[.int .i64 a0_0, .int .i64 a0_1, .int .i64 a0_2, .int .i64 a0_3]) (t := 23) ?hr ?_; (case hd => rfl); (case hg => rfl); (case hr => first | (go_simp; done) | (go_simp; rfl)); intro gb253 hg w15 hbox hb; have BK253 := Aside0.mk (hbox); have GW253 := Aside0.mk ((by rw [hg]; exact (below_size (hS HB.out)) : w.heap.size ≤ gb253)); have GE253 := Aside0.mk ((by rw [hg]; exact (below_size (hS HB.out)) : w.heap.size ≤ gb253)); replace HB := Aside0.mk (below_step (hS HB.out) hb); clear hb hbox hg) | ((with_reducible refine gate_dst (N := 3) rfl ?_); refine box_event ?hg (N := 3) ?hd (cs := #[.int .i64 a1_0, .int .i64 a1_1]) (t := 28) ?hr ?_; (case hd => rfl); (case hg => rfl); (case hr => first | (go_simp; done) | (go_simp; rfl)); intro gb254 hg w16 hbox hb; have BK254 := Aside0.mk (hbox); have GW254 := Aside0.mk ((by rw [hg]; exact (below_size (hS HB.out)) : w.heap.size ≤ gb254)); have GE254 := Aside0.mk ((by rw [hg]; exact (below_size (hS HB.out)) : w.heap.size ≤ gb254)); replace HB := Aside0.mk (below_step (hS HB.out) hb); have NB253_254 := Aside0.mk ((by rw [hg]; exact Nat.ne_of_lt (blk_lt (bS BK253.out)) : gb253 ≠ gb254)); have NB254_253 := Aside0.mk ((by rw [hg]; exact Nat.ne_of_gt (blk_lt (bS BK253.out)) : gb254 ≠ gb253)); replace BK253 := Aside0.mk (blk_below (bS BK253.out) hb); clear hb hbox hg; have hnb17 := NB253_254.out; have hnc17 := NB254_253.out; have hcz18_0 : w16.cell? ⟨gb253, 0, none⟩ = some (.int .i64 a0_0) := (blk_cell BK253.out 0).trans rfl; have hcz18_1 : w16.cell? ⟨gb253, 1, none⟩ = some (.int .i64 a0_1) := (blk_cell BK253.out 1).trans rfl; have hcz18_2 : w16.cell? ⟨gb253, 2, none⟩ = some (.int .i64 a0_2) := (blk_cell BK253.out 2).trans rfl; have hcz18_3 : w16.cell? ⟨gb253, 3, none⟩ = some (.int .i64 a0_3) := (blk_cell BK253.out 3).trans rfl; have hfz18_0 := blk_frozen BK253.out 0; have hfz18_1 := blk_frozen BK253.out 1; have hfz18_2 := blk_frozen BK253.out 2; have hfz18_3 := blk_frozen BK253.out 3) | ((with_reducible refine gate_callee (f := 35) rfl ?_); refine goesL_ (some 6) rfl rfl Try.func35 (by kernel_rfl) rfl #[.agg #[.int .i64 a0_0, .int .i64 a0_1, .int .i64 a0_2, .int .i64 a0_3]] rfl (by (try simp only [List.map_toArray, List.map_cons, List.map_nil]); first | done | rfl | (simp only [List.length_drop, List.length_take]; rfl)) ?_; (with_reducible refine (rollcallref16_May.calls a0_0 a0_1 a0_2 a0_3 true _ A3.out).mono ?_); rintro e w19 ⟨rfl, hb⟩; refine ⟨_, rfl, ?_⟩; replace BK253 := Aside0.mk (blk_below (bS BK253.out) hb); replace BK254 := Aside0.mk (blk_below (bS BK254.out) hb); replace HB := Aside0.mk (below_step (hS HB.out) hb); (try clear hb); (try clear hb2); (try clear hk); (try clear hi); have hcz20_0 : w19.cell? ⟨gb254, 0, none⟩ = some (.int .i64 a1_0) := (blk_cell BK254.out 0).trans rfl; have hcz20_1 : w19.cell? ⟨gb254, 1, none⟩ = some (.int .i64 a1_1) := (blk_cell BK254.out 1).trans rfl; have hfz20_0 := blk_frozen BK254.out 0; have hfz20_1 := blk_frozen BK254.out 1; have hcz21_0 : w19.cell? ⟨gb253, 0, none⟩ = some (.int .i64 a0_0) := (blk_cell BK253.out 0).trans rfl; have hcz21_1 : w19.cell? ⟨gb253, 1, none⟩ = some (.int .i64 a0_1) := (blk_cell BK253.out 1).trans rfl; have hcz21_2 : w19.cell? ⟨gb253, 2, none⟩ = some (.int .i64 a0_2) := (blk_cell BK253.out 2).trans rfl; have hcz21_3 : w19.cell? ⟨gb253, 3, none⟩ = some (.int .i64 a0_3) := (blk_cell BK253.out 3).trans rfl; have hfz21_0 := blk_frozen BK253.out 0; have hfz21_1 := blk_frozen BK253.out 1; have hfz21_2 := blk_frozen BK253.out 2; have hfz21_3 := blk_frozen BK253.out 3))
    go_ret
    exact ⟨by first | rfl | (simp [errW_none, errW_some] <;> rfl) | (simp [*, errW_none, errW_some] <;> rfl), by repeat (first | (with_reducible first | exact HB.out | apply below_alloc | apply pw_below_drewN | apply below_drew1 | refine below_set ?_ GE253.out | refine below_set ?_ GE254.out) | exact HB.out)⟩
  ·rw [if_neg c5] at H
   have c5b0 : decide (0 ≤ a1_0) = false := decide_eq_false c5
   clear c5
   obtain rfl := Option.some.inj H
   go_enter Try.func44, Try.ntmps44
   go_wp2_with (first | ((with_reducible refine gate_dst (N := 2) rfl ?_); refine box_event ?hg (N := 2) ?hd (cs := #[.int .i64 a0_0, .int .i64 a0_1, .int .i64 a0_2, .int .i64 a0_3]) (t := 23) ?hr ?_; (case hd => rfl); (case hg => rfl); (case hr => first | (go_simp; done) | (go_simp; rfl)); intro gb253 hg w22 hbox hb; have BK253 := Aside0.mk (hbox); have GW253 := Aside0.mk ((by rw [hg]; exact (below_size (hS HB.out)) : w.heap.size ≤ gb253)); have GE253 := Aside0.mk ((by rw [hg]; exact (below_size (hS HB.out)) : w.heap.size ≤ gb253)); replace HB := Aside0.mk (below_step (hS HB.out) hb); clear hb hbox hg) | ((with_reducible refine gate_dst (N := 3) rfl ?_); refine box_event ?hg (N := 3) ?hd (cs := #[.int .i64 a1_0, .int .i64 a1_1]) (t := 28) ?hr ?_; (case hd => rfl); (case hg => rfl); (case hr => first | (go_simp; done) | (go_simp; rfl)); intro gb254 hg w23 hbox hb; have BK254 := Aside0.mk (hbox); have GW254 := Aside0.mk ((by rw [hg]; exact (below_size (hS HB.out)) : w.heap.size ≤ gb254)); have GE254 := Aside0.mk ((by rw [hg]; exact (below_size (hS HB.out)) : w.heap.size ≤ gb254)); replace HB := Aside0.mk (below_step (hS HB.out) hb); have NB253_254 := Aside0.mk ((by rw [hg]; exact Nat.ne_of_lt (blk_lt (bS BK253.out)) : gb253 ≠ gb254)); have NB254_253 := Aside0.mk ((by rw [hg]; exact Nat.ne_of_gt (blk_lt (bS BK253.out)) : gb254 ≠ gb253)); replace BK253 := Aside0.mk (blk_below (bS BK253.out) hb); clear hb hbox hg; have hnb24 := NB253_254.out; have hnc24 := NB254_253.out; have hcz25_0 : w23.cell? ⟨gb253, 0, none⟩ = some (.int .i64 a0_0) := (blk_cell BK253.out 0).trans rfl; have hcz25_1 : w23.cell? ⟨gb253, 1, none⟩ = some (.int .i64 a0_1) := (blk_cell BK253.out 1).trans rfl; have hcz25_2 : w23.cell? ⟨gb253, 2, none⟩ = some (.int .i64 a0_2) := (blk_cell BK253.out 2).trans rfl; have hcz25_3 : w23.cell? ⟨gb253, 3, none⟩ = some (.int .i64 a0_3) := (blk_cell BK253.out 3).trans rfl; have hfz25_0 := blk_frozen BK253.out 0; have hfz25_1 := blk_frozen BK253.out 1; have hfz25_2 := blk_frozen BK253.out 2; have hfz25_3 := blk_frozen BK253.out 3) | ((with_reducible refine gate_callee (f := 35) rfl ?_); refine goesL_ (some 6) rfl rfl Try.func35 (by kernel_rfl) rfl #[.agg #[.int .i64 a0_0, .int .i64 a0_1, .int .i64 a0_2, .int .i64 a0_3]] rfl (by (try simp only [List.map_toArray, List.map_cons, List.map_nil]); first | done | rfl | (simp only [List.length_drop, List.length_take]; rfl)) ?_; (with_reducible refine (rollcallref16_May.calls a0_0 a0_1 a0_2 a0_3 true _ A3.out).mono ?_); rintro e w26 ⟨rfl, hb⟩; refine ⟨_, rfl, ?_⟩; replace BK253 := Aside0.mk (blk_below (bS BK253.out) hb); replace BK254 := Aside0.mk (blk_below (bS BK254.out) hb); replace HB := Aside0.mk (below_step (hS HB.out) hb); (try clear hb); (try clear hb2); (try clear hk); (try clear hi); have hcz27_0 : w26.cell? ⟨gb254, 0, none⟩ = some (.int .i64 a1_0) := (blk_cell BK254.out 0).trans rfl; have hcz27_1 : w26.cell? ⟨gb254, 1, none⟩ = some (.int .i64 a1_1) := (blk_cell BK254.out 1).trans rfl; have hfz27_0 := blk_frozen BK254.out 0; have hfz27_1 := blk_frozen BK254.out 1))
   go_ret
   exact ⟨by first | rfl | (simp [errW_none, errW_some] <;> rfl) | (simp [*, errW_none, errW_some] <;> rfl), by repeat (first | (with_reducible first | exact HB.out | apply below_alloc | apply pw_below_drewN | apply below_drew1 | refine below_set ?_ GE253.out | refine below_set ?_ GE254.out) | exact HB.out)⟩
 ·replace c4 := Bool.eq_false_iff.mpr c4
  subst c4
  have H1 : (some false) = some r := by rw [if_neg (show ¬ (false = true) by decide)] at H; exact H
  clear H
  have H := H1
  clear H1
  obtain rfl := Option.some.inj H
  go_enter Try.func44, Try.ntmps44
  go_wp2_with (first | ((with_reducible refine gate_dst (N := 2) rfl ?_); refine box_event ?hg (N := 2) ?hd (cs := #[.int .i64 a0_0, .int .i64 a0_1, .int .i64 a0_2, .int .i64 a0_3]) (t := 23) ?hr ?_; (case hd => rfl); (case hg => rfl); (case hr => first | (go_simp; done) | (go_simp; rfl)); intro gb253 hg w28 hbox hb; have BK253 := Aside0.mk (hbox); have GW253 := Aside0.mk ((by rw [hg]; exact (below_size (hS HB.out)) : w.heap.size ≤ gb253)); have GE253 := Aside0.mk ((by rw [hg]; exact (below_size (hS HB.out)) : w.heap.size ≤ gb253)); replace HB := Aside0.mk (below_step (hS HB.out) hb); clear hb hbox hg) | ((with_reducible refine gate_dst (N := 3) rfl ?_); refine box_event ?hg (N := 3) ?hd (cs := #[.int .i64 a1_0, .int .i64 a1_1]) (t := 28) ?hr ?_; (case hd => rfl); (case hg => rfl); (case hr => first | (go_simp; done) | (go_simp; rfl)); intro gb254 hg w29 hbox hb; have BK254 := Aside0.mk (hbox); have GW254 := Aside0.mk ((by rw [hg]; exact (below_size (hS HB.out)) : w.heap.size ≤ gb254)); have GE254 := Aside0.mk ((by rw [hg]; exact (below_size (hS HB.out)) : w.heap.size ≤ gb254)); replace HB := Aside0.mk (below_step (hS HB.out) hb); have NB253_254 := Aside0.mk ((by rw [hg]; exact Nat.ne_of_lt (blk_lt (bS BK253.out)) : gb253 ≠ gb254)); have NB254_253 := Aside0.mk ((by rw [hg]; exact Nat.ne_of_gt (blk_lt (bS BK253.out)) : gb254 ≠ gb253)); replace BK253 := Aside0.mk (blk_below (bS BK253.out) hb); clear hb hbox hg; have hnb30 := NB253_254.out; have hnc30 := NB254_253.out; have hcz31_0 : w29.cell? ⟨gb253, 0, none⟩ = some (.int .i64 a0_0) := (blk_cell BK253.out 0).trans rfl; have hcz31_1 : w29.cell? ⟨gb253, 1, none⟩ = some (.int .i64 a0_1) := (blk_cell BK253.out 1).trans rfl; have hcz31_2 : w29.cell? ⟨gb253, 2, none⟩ = some (.int .i64 a0_2) := (blk_cell BK253.out 2).trans rfl; have hcz31_3 : w29.cell? ⟨gb253, 3, none⟩ = some (.int .i64 a0_3) := (blk_cell BK253.out 3).trans rfl; have hfz31_0 := blk_frozen BK253.out 0; have hfz31_1 := blk_frozen BK253.out 1; have hfz31_2 := blk_frozen BK253.out 2; have hfz31_3 := blk_frozen BK253.out 3) | ((with_reducible refine gate_callee (f := 35) rfl ?_); refine goesL_ (some 6) rfl rfl Try.func35 (by kernel_rfl) rfl #[.agg #[.int .i64 a0_0, .int .i64 a0_1, .int .i64 a0_2, .int .i64 a0_3]] rfl (by (try simp only [List.map_toArray, List.map_cons, List.map_nil]); first | done | rfl | (simp only [List.length_drop, List.length_take]; rfl)) ?_; (with_reducible refine (rollcallref16_May.calls a0_0 a0_1 a0_2 a0_3 false _ A3.out).mono ?_); rintro e w32 ⟨rfl, hb⟩; refine ⟨_, rfl, ?_⟩; replace BK253 := Aside0.mk (blk_below (bS BK253.out) hb); replace BK254 := Aside0.mk (blk_below (bS BK254.out) hb); replace HB := Aside0.mk (below_step (hS HB.out) hb); (try clear hb); (try clear hb2); (try clear hk); (try clear hi)))
  go_ret
  exact ⟨by first | rfl | (simp [errW_none, errW_some] <;> rfl) | (simp [*, errW_none, errW_some] <;> rfl), by repeat (first | (with_reducible first | exact HB.out | apply below_alloc | apply pw_below_drewN | apply below_drew1 | refine below_set ?_ GE253.out | refine below_set ?_ GE254.out) | exact HB.out)⟩

/-! ### rollcallref03_Is: function 56 -/
mutual
def rollcallref03_Is.j0 : Nat → ByteArray → Bool → Option (Bool)
 | 0, _, _ => none
 | k + 1, x0, x22 => if x22 = true then (some false) else (rollcallref03_Is.l0 k x0 0)
def rollcallref03_Is.l0 : Nat → ByteArray → Int → Option (Bool)
 | 0, _, _ => none
 | k + 1, x0, x3 => if x3 < (x0.size : Int) then (if 0 ≤ x3 then (if (bt x0 x3) < 97 then (if (bt x0 x3) < 48 then (if (bt x0 x3) = 45 then (rollcallref03_Is.l0 k x0 (wrap64 (x3 + 1))) else (some false)) else (if (bt x0 x3) > 57 then (if (bt x0 x3) = 45 then (rollcallref03_Is.l0 k x0 (wrap64 (x3 + 1))) else (some false)) else (rollcallref03_Is.l0 k x0 (wrap64 (x3 + 1))))) else (if (bt x0 x3) > 122 then (if (bt x0 x3) < 48 then (if (bt x0 x3) = 45 then (rollcallref03_Is.l0 k x0 (wrap64 (x3 + 1))) else (some false)) else (if (bt x0 x3) > 57 then (if (bt x0 x3) = 45 then (rollcallref03_Is.l0 k x0 (wrap64 (x3 + 1))) else (some false)) else (rollcallref03_Is.l0 k x0 (wrap64 (x3 + 1))))) else (rollcallref03_Is.l0 k x0 (wrap64 (x3 + 1))))) else (none)) else (some true)
end
def rollcallref03_Is.f (k : Nat) (a0 : ByteArray) : Option (Bool) := if (a0.size : Int) < 1 then (rollcallref03_Is.j0 k a0 true) else (if (a0.size : Int) > 16 then (rollcallref03_Is.j0 k a0 true) else (if 0 < (a0.size : Int) then (if (bt a0 0) < 97 then (rollcallref03_Is.j0 k a0 true) else (rollcallref03_Is.j0 k a0 (decide ((bt a0 0) > 122)))) else (none)))
set_option maxHeartbeats 8000000 in
set_option maxRecDepth 100000 in
theorem rollcallref03_Is.calls (k : Nat) (a0 : ByteArray) (r : Bool) (w : World) (h : rollcallref03_Is.f k a0 = some r) :
  Calls Try.prog 56 #[.string a0] w fun e w' => e = .returned (.bool r) ∧ Drawn0 w w' := by
 have H : (if (a0.size : Int) < 1 then (rollcallref03_Is.j0 k a0 true) else (if (a0.size : Int) > 16 then (rollcallref03_Is.j0 k a0 true) else (if 0 < (a0.size : Int) then (if (bt a0 0) < 97 then (rollcallref03_Is.j0 k a0 true) else (rollcallref03_Is.j0 k a0 (decide ((bt a0 0) > 122)))) else (none)))) = some r := h
 clear h
 have HC2 := Aside0.mk H
 clear H
 go_enter Try.func56, Try.ntmps56
 go_upto_region 1 with (fail)
 go_cut [22] (fun v22 wc => ∃ (kq : Nat) (x22_1 : Bool), v22 = .bool x22_1 ∧ Aside0 (rollcallref03_Is.j0 kq a0 x22_1 = some r) ∧ Aside0 (kq ≤ k) ∧ Drawn0 w wc)
 case first =>
  have H := HC2.out
  clear HC2
  by_cases c3 : (a0.size : Int) < 1
  ·rw [if_pos c3] at H
   have c3b0 : decide ((a0.size : Int) < 1) = true := decide_eq_true c3
   have c3b1 : decide (a0.size < 1) = true := decide_eq_true (by omega)
   clear c3
   (first | rw [c3b0] | (simp only [i64_w, i32_w]; rw [c3b0]) | skip)
   have H' := Aside0.mk H
   clear H
   go_wp2
   go_meet
   case rel => exact ⟨_, (true), (by first | rfl | (simp; done) | (simp [*]; done)), H', ⟨by first | omega | exact Nat.le_refl _⟩, by repeat (first | exact Drawn0.refl _ | apply Drawn0.step)⟩
  ·rw [if_neg c3] at H
   have c3b0 : decide ((a0.size : Int) < 1) = false := decide_eq_false c3
   have c3b1 : decide (a0.size < 1) = false := decide_eq_false (by omega)
   clear c3
   (first | rw [c3b0] | (simp only [i64_w, i32_w]; rw [c3b0]) | skip)
   by_cases c4 : (a0.size : Int) > 16
   ·rw [if_pos c4] at H
    have c4b0 : decide (16 < (a0.size : Int)) = true := decide_eq_true c4
    have c4b1 : decide (16 < a0.size) = true := decide_eq_true (by omega)
    clear c4
    have H' := Aside0.mk H
    clear H
    go_wp2
    go_meet
    case rel => exact ⟨_, (true), (by first | rfl | (simp; done) | (simp [*]; done)), H', ⟨by first | omega | exact Nat.le_refl _⟩, by repeat (first | exact Drawn0.refl _ | apply Drawn0.step)⟩
   ·rw [if_neg c4] at H
    have c4b0 : decide (16 < (a0.size : Int)) = false := decide_eq_false c4
    have c4b1 : decide (16 < a0.size) = false := decide_eq_false (by omega)
    clear c4
    by_cases c5 : 0 < (a0.size : Int)
    ·rw [if_pos c5] at H
     have c5b0 : decide (0 < (a0.size : Int)) = true := decide_eq_true c5
     have c5b1 : decide (0 < a0.size) = true := decide_eq_true (by omega)
     clear c5
     by_cases c7 : (bt a0 0) < 97
     ·rw [if_pos c7] at H
      have c7b0 : decide ((bt a0 0) < 97) = true := decide_eq_true c7
      clear c7
      have H' := Aside0.mk H
      clear H
      have p6 : 0 ≤ (0 : Int) := (by omega)
      have q6 : 0 < a0.size := (by have : (0 : Int) < (a0.size : Int) := of_decide_eq_true (by first | (with_reducible assumption) | assumption); omega)
      have hx6 : ∀ h : 0 < a0.size, ((a0[0]'h).toNat : Int) = bt a0 0 := bt_at a0 0
      clear p6
      have qi6 : (0 < (a0.size : Int)) = True := eq_true (of_decide_eq_true (by first | (with_reducible assumption) | assumption))
      replace q6 := eq_true q6
      go_wp2
      go_meet
      case rel => exact ⟨_, (true), (by first | rfl | (simp; done) | (simp [*]; done)), H', ⟨by first | omega | exact Nat.le_refl _⟩, by repeat (first | exact Drawn0.refl _ | apply Drawn0.step)⟩
     ·rw [if_neg c7] at H
      have c7b0 : decide ((bt a0 0) < 97) = false := decide_eq_false c7
      clear c7
      have H' := Aside0.mk H
      clear H
      have p6 : 0 ≤ (0 : Int) := (by omega)
      have q6 : 0 < a0.size := (by have : (0 : Int) < (a0.size : Int) := of_decide_eq_true (by first | (with_reducible assumption) | assumption); omega)
      have hx6 : ∀ h : 0 < a0.size, ((a0[0]'h).toNat : Int) = bt a0 0 := bt_at a0 0
      clear p6
      have qi6 : (0 < (a0.size : Int)) = True := eq_true (of_decide_eq_true (by first | (with_reducible assumption) | assumption))
      replace q6 := eq_true q6
      have p8 : 0 ≤ (0 : Int) := (by omega)
      have q8 : 0 < a0.size := (by have : (0 : Int) < (a0.size : Int) := of_decide_eq_true (by first | (with_reducible assumption) | assumption); omega)
      have hx8 : ∀ h : 0 < a0.size, ((a0[0]'h).toNat : Int) = bt a0 0 := bt_at a0 0
      clear p8
      have qi8 : (0 < (a0.size : Int)) = True := eq_true (of_decide_eq_true (by first | (with_reducible assumption) | assumption))
      replace q8 := eq_true q8
      go_wp2
      go_meet
      case rel => exact ⟨_, (decide ((bt a0 0) > 122)), (by first | rfl | (simp; done) | (simp [*]; done)), H', ⟨by first | omega | exact Nat.le_refl _⟩, by repeat (first | exact Drawn0.refl _ | apply Drawn0.step)⟩
    ·rw [if_neg c5] at H
     exact absurd H (by simp)
 case rest =>
  clear HC2
  try clear p2
  try clear c3
  try clear c3b0
  try clear c3b1
  try clear c4
  try clear c4b0
  try clear c4b1
  try clear c5
  try clear c5b0
  try clear c5b1
  try clear p6
  try clear q6
  try clear hx6
  try clear qi6
  try clear c7
  try clear c7b0
  try clear p8
  try clear q8
  try clear hx8
  try clear qi8
  try clear p6
  try clear p8
  try clear q6
  try clear q8
  obtain ⟨kq, x22_1, rfl, HA, HJ1, ⟨mc1, rfl⟩⟩ := hcut
  cases kq with
  | zero => exact absurd HA.out (by simp [rollcallref03_Is.j0])
  | succ kj1 =>
   have H := HA.out
   clear HA
   simp only [rollcallref03_Is.j0] at H
   by_cases c9 : x22_1 = true
   ·subst c9
    have H1 : (some false) = some r := by rw [if_pos rfl] at H; exact H
    clear H
    have H := H1
    clear H1
    obtain rfl := Option.some.inj H
    go_wp2
    go_ret
    exact ⟨by first | rfl | (simp; done) | (simp [*]; done), by repeat (first | exact Drawn0.refl _ | apply Drawn0.step)⟩
   ·replace c9 := Bool.eq_false_iff.mpr c9
    subst c9
    have H1 : (rollcallref03_Is.l0 kj1 a0 0) = some r := by rw [if_neg (show ¬ (false = true) by decide)] at H; exact H
    clear H
    have H := H1
    clear H1
    have H' := Aside0.mk H
    clear H
    go_wp2
    go_loopg [3] kj1 (fun kq v3 w' => ∃ (x3_2 : Int), v3 = .int .i64 x3_2 ∧ Aside0 (rollcallref03_Is.l0 kq a0 x3_2 = some r) ∧ Aside0 (kq ≤ kj1) ∧ Drawn0 w w')
    case atStart => exact ⟨(0), (by first | rfl | (simp; done) | (simp [*]; done)), H', ⟨Nat.le_refl _⟩, by repeat (first | exact Drawn0.refl _ | apply Drawn0.step)⟩
    case round =>
     clear H'
     try clear c1
     try clear p2
     try clear c3
     try clear c3b0
     try clear c3b1
     try clear c4
     try clear c4b0
     try clear c4b1
     try clear c5
     try clear c5b0
     try clear c5b1
     try clear p6
     try clear q6
     try clear hx6
     try clear qi6
     try clear c7
     try clear c7b0
     try clear p8
     try clear q8
     try clear hx8
     try clear qi8
     try clear c9
     try clear p2
     try clear p6
     try clear p8
     try clear q6
     try clear q8
     obtain ⟨x3_2, rfl, HA, HK2, ⟨m2, rfl⟩⟩ := hrel
     cases gk with
     | zero => exact absurd HA.out (by simp [rollcallref03_Is.l0])
     | succ k2 =>
      have H := HA.out
      clear HA
      simp only [rollcallref03_Is.l0] at H
      by_cases c10 : x3_2 < (a0.size : Int)
      ·rw [if_pos c10] at H
       have c10b0 : decide (x3_2 < (a0.size : Int)) = true := decide_eq_true c10
       clear c10
       by_cases c11 : 0 ≤ x3_2
       ·rw [if_pos c11] at H
        have c11b0 : decide (0 ≤ x3_2) = true := decide_eq_true c11
        clear c11
        by_cases c13 : (bt a0 x3_2) < 97
        ·rw [if_pos c13] at H
         have c13b0 : decide ((bt a0 x3_2) < 97) = true := decide_eq_true c13
         clear c13
         by_cases c14 : (bt a0 x3_2) < 48
         ·rw [if_pos c14] at H
          have c14b0 : decide ((bt a0 x3_2) < 48) = true := decide_eq_true c14
          clear c14
          by_cases c15 : (bt a0 x3_2) = 45
          ·rw [if_pos c15] at H
           have c15b0 : ((bt a0 x3_2) == 45) = true := beq_iff_eq.mpr c15
           have c15b1 : ((bt a0 x3_2) != 45) = false := bne_eq_false_iff_eq.mpr c15
           clear c15
           have H' := Aside0.mk H
           clear H
           have p12 : 0 ≤ (x3_2 : Int) := of_decide_eq_true (by first | (with_reducible assumption) | assumption)
           have q12 : x3_2 < (a0.size : Int) := of_decide_eq_true (by first | (with_reducible assumption) | assumption)
           have hx12 := bt_at a0 x3_2
           replace p12 := eq_true p12
           replace q12 := eq_true q12
           go_wp2
           go_roundg k2
           case measure => have := HJ1.out; have := HK2.out; omega
           case rel => exact ⟨(wrap64 (x3_2 + 1)), (by first | rfl | (simp; done) | (simp [*]; done)), H', ⟨by have := HJ1.out; have := HK2.out; omega⟩, by repeat (first | exact Drawn0.refl _ | apply Drawn0.step)⟩
          ·rw [if_neg c15] at H
           have c15b0 : ((bt a0 x3_2) == 45) = false := beq_eq_false_iff_ne.mpr c15
           have c15b1 : ((bt a0 x3_2) != 45) = true := bne_iff_ne.mpr c15
           obtain rfl := Option.some.inj H
           have p12 : 0 ≤ (x3_2 : Int) := of_decide_eq_true (by first | (with_reducible assumption) | assumption)
           have q12 : x3_2 < (a0.size : Int) := of_decide_eq_true (by first | (with_reducible assumption) | assumption)
           have hx12 := bt_at a0 x3_2
           replace p12 := eq_true p12
           replace q12 := eq_true q12
           go_wp2
           go_ret
           exact ⟨by first | rfl | (simp; done) | (simp [*]; done), by repeat (first | exact Drawn0.refl _ | apply Drawn0.step)⟩
         ·rw [if_neg c14] at H
          have c14b0 : decide ((bt a0 x3_2) < 48) = false := decide_eq_false c14
          clear c14
          by_cases c16 : (bt a0 x3_2) > 57
          ·rw [if_pos c16] at H
           have c16b0 : decide (57 < (bt a0 x3_2)) = true := decide_eq_true c16
           clear c16
           by_cases c17 : (bt a0 x3_2) = 45
           ·rw [if_pos c17] at H
            have c17b0 : ((bt a0 x3_2) == 45) = true := beq_iff_eq.mpr c17
            have c17b1 : ((bt a0 x3_2) != 45) = false := bne_eq_false_iff_eq.mpr c17
            clear c17
            have H' := Aside0.mk H
            clear H
            have p12 : 0 ≤ (x3_2 : Int) := of_decide_eq_true (by first | (with_reducible assumption) | assumption)
            have q12 : x3_2 < (a0.size : Int) := of_decide_eq_true (by first | (with_reducible assumption) | assumption)
            have hx12 := bt_at a0 x3_2
            replace p12 := eq_true p12
            replace q12 := eq_true q12
            go_wp2
            go_roundg k2
            case measure => have := HJ1.out; have := HK2.out; omega
            case rel => exact ⟨(wrap64 (x3_2 + 1)), (by first | rfl | (simp; done) | (simp [*]; done)), H', ⟨by have := HJ1.out; have := HK2.out; omega⟩, by repeat (first | exact Drawn0.refl _ | apply Drawn0.step)⟩
           ·rw [if_neg c17] at H
            have c17b0 : ((bt a0 x3_2) == 45) = false := beq_eq_false_iff_ne.mpr c17
            have c17b1 : ((bt a0 x3_2) != 45) = true := bne_iff_ne.mpr c17
            obtain rfl := Option.some.inj H
            have p12 : 0 ≤ (x3_2 : Int) := of_decide_eq_true (by first | (with_reducible assumption) | assumption)
            have q12 : x3_2 < (a0.size : Int) := of_decide_eq_true (by first | (with_reducible assumption) | assumption)
            have hx12 := bt_at a0 x3_2
            replace p12 := eq_true p12
            replace q12 := eq_true q12
            go_wp2
            go_ret
            exact ⟨by first | rfl | (simp; done) | (simp [*]; done), by repeat (first | exact Drawn0.refl _ | apply Drawn0.step)⟩
          ·rw [if_neg c16] at H
           have c16b0 : decide (57 < (bt a0 x3_2)) = false := decide_eq_false c16
           clear c16
           have H' := Aside0.mk H
           clear H
           have p12 : 0 ≤ (x3_2 : Int) := of_decide_eq_true (by first | (with_reducible assumption) | assumption)
           have q12 : x3_2 < (a0.size : Int) := of_decide_eq_true (by first | (with_reducible assumption) | assumption)
           have hx12 := bt_at a0 x3_2
           replace p12 := eq_true p12
           replace q12 := eq_true q12
           go_wp2
           go_roundg k2
           case measure => have := HJ1.out; have := HK2.out; omega
           case rel => exact ⟨(wrap64 (x3_2 + 1)), (by first | rfl | (simp; done) | (simp [*]; done)), H', ⟨by have := HJ1.out; have := HK2.out; omega⟩, by repeat (first | exact Drawn0.refl _ | apply Drawn0.step)⟩
        ·rw [if_neg c13] at H
         have c13b0 : decide ((bt a0 x3_2) < 97) = false := decide_eq_false c13
         clear c13
         by_cases c18 : (bt a0 x3_2) > 122
         ·rw [if_pos c18] at H
          have c18b0 : decide (122 < (bt a0 x3_2)) = true := decide_eq_true c18
          clear c18
          by_cases c19 : (bt a0 x3_2) < 48
          ·rw [if_pos c19] at H
           have c19b0 : decide ((bt a0 x3_2) < 48) = true := decide_eq_true c19
           clear c19
           by_cases c20 : (bt a0 x3_2) = 45
           ·rw [if_pos c20] at H
            have c20b0 : ((bt a0 x3_2) == 45) = true := beq_iff_eq.mpr c20
            have c20b1 : ((bt a0 x3_2) != 45) = false := bne_eq_false_iff_eq.mpr c20
            clear c20
            have H' := Aside0.mk H
            clear H
            have p12 : 0 ≤ (x3_2 : Int) := of_decide_eq_true (by first | (with_reducible assumption) | assumption)
            have q12 : x3_2 < (a0.size : Int) := of_decide_eq_true (by first | (with_reducible assumption) | assumption)
            have hx12 := bt_at a0 x3_2
            replace p12 := eq_true p12
            replace q12 := eq_true q12
            go_wp2
            go_roundg k2
            case measure => have := HJ1.out; have := HK2.out; omega
            case rel => exact ⟨(wrap64 (x3_2 + 1)), (by first | rfl | (simp; done) | (simp [*]; done)), H', ⟨by have := HJ1.out; have := HK2.out; omega⟩, by repeat (first | exact Drawn0.refl _ | apply Drawn0.step)⟩
           ·rw [if_neg c20] at H
            have c20b0 : ((bt a0 x3_2) == 45) = false := beq_eq_false_iff_ne.mpr c20
            have c20b1 : ((bt a0 x3_2) != 45) = true := bne_iff_ne.mpr c20
            obtain rfl := Option.some.inj H
            have p12 : 0 ≤ (x3_2 : Int) := of_decide_eq_true (by first | (with_reducible assumption) | assumption)
            have q12 : x3_2 < (a0.size : Int) := of_decide_eq_true (by first | (with_reducible assumption) | assumption)
            have hx12 := bt_at a0 x3_2
            replace p12 := eq_true p12
            replace q12 := eq_true q12
            go_wp2
            go_ret
            exact ⟨by first | rfl | (simp; done) | (simp [*]; done), by repeat (first | exact Drawn0.refl _ | apply Drawn0.step)⟩
          ·rw [if_neg c19] at H
           have c19b0 : decide ((bt a0 x3_2) < 48) = false := decide_eq_false c19
           clear c19
           by_cases c21 : (bt a0 x3_2) > 57
           ·rw [if_pos c21] at H
            have c21b0 : decide (57 < (bt a0 x3_2)) = true := decide_eq_true c21
            clear c21
            by_cases c22 : (bt a0 x3_2) = 45
            ·rw [if_pos c22] at H
             have c22b0 : ((bt a0 x3_2) == 45) = true := beq_iff_eq.mpr c22
             have c22b1 : ((bt a0 x3_2) != 45) = false := bne_eq_false_iff_eq.mpr c22
             clear c22
             have H' := Aside0.mk H
             clear H
             have p12 : 0 ≤ (x3_2 : Int) := of_decide_eq_true (by first | (with_reducible assumption) | assumption)
             have q12 : x3_2 < (a0.size : Int) := of_decide_eq_true (by first | (with_reducible assumption) | assumption)
             have hx12 := bt_at a0 x3_2
             replace p12 := eq_true p12
             replace q12 := eq_true q12
             go_wp2
             go_roundg k2
             case measure => have := HJ1.out; have := HK2.out; omega
             case rel => exact ⟨(wrap64 (x3_2 + 1)), (by first | rfl | (simp; done) | (simp [*]; done)), H', ⟨by have := HJ1.out; have := HK2.out; omega⟩, by repeat (first | exact Drawn0.refl _ | apply Drawn0.step)⟩
            ·rw [if_neg c22] at H
             have c22b0 : ((bt a0 x3_2) == 45) = false := beq_eq_false_iff_ne.mpr c22
             have c22b1 : ((bt a0 x3_2) != 45) = true := bne_iff_ne.mpr c22
             obtain rfl := Option.some.inj H
             have p12 : 0 ≤ (x3_2 : Int) := of_decide_eq_true (by first | (with_reducible assumption) | assumption)
             have q12 : x3_2 < (a0.size : Int) := of_decide_eq_true (by first | (with_reducible assumption) | assumption)
             have hx12 := bt_at a0 x3_2
             replace p12 := eq_true p12
             replace q12 := eq_true q12
             go_wp2
             go_ret
             exact ⟨by first | rfl | (simp; done) | (simp [*]; done), by repeat (first | exact Drawn0.refl _ | apply Drawn0.step)⟩
           ·rw [if_neg c21] at H
            have c21b0 : decide (57 < (bt a0 x3_2)) = false := decide_eq_false c21
            clear c21
            have H' := Aside0.mk H
            clear H
            have p12 : 0 ≤ (x3_2 : Int) := of_decide_eq_true (by first | (with_reducible assumption) | assumption)
            have q12 : x3_2 < (a0.size : Int) := of_decide_eq_true (by first | (with_reducible assumption) | assumption)
            have hx12 := bt_at a0 x3_2
            replace p12 := eq_true p12
            replace q12 := eq_true q12
            go_wp2
            go_roundg k2
            case measure => have := HJ1.out; have := HK2.out; omega
            case rel => exact ⟨(wrap64 (x3_2 + 1)), (by first | rfl | (simp; done) | (simp [*]; done)), H', ⟨by have := HJ1.out; have := HK2.out; omega⟩, by repeat (first | exact Drawn0.refl _ | apply Drawn0.step)⟩
         ·rw [if_neg c18] at H
          have c18b0 : decide (122 < (bt a0 x3_2)) = false := decide_eq_false c18
          clear c18
          have H' := Aside0.mk H
          clear H
          have p12 : 0 ≤ (x3_2 : Int) := of_decide_eq_true (by first | (with_reducible assumption) | assumption)
          have q12 : x3_2 < (a0.size : Int) := of_decide_eq_true (by first | (with_reducible assumption) | assumption)
          have hx12 := bt_at a0 x3_2
          replace p12 := eq_true p12
          replace q12 := eq_true q12
          go_wp2
          go_roundg k2
          case measure => have := HJ1.out; have := HK2.out; omega
          case rel => exact ⟨(wrap64 (x3_2 + 1)), (by first | rfl | (simp; done) | (simp [*]; done)), H', ⟨by have := HJ1.out; have := HK2.out; omega⟩, by repeat (first | exact Drawn0.refl _ | apply Drawn0.step)⟩
       ·rw [if_neg c11] at H
        exact absurd H (by simp)
      ·rw [if_neg c10] at H
       have c10b0 : decide (x3_2 < (a0.size : Int)) = false := decide_eq_false c10
       clear c10
       obtain rfl := Option.some.inj H
       go_wp2
       go_ret
       exact ⟨by first | rfl | (simp; done) | (simp [*]; done), by repeat (first | exact Drawn0.refl _ | apply Drawn0.step)⟩

end Go.Proofs.Ytmigglldahkngaa.PA
end
