/- What is known of memory that nobody writes any more, kept as one fact; slices that are only read. -/
import Derived.Below
import Derived.Deep.Draws
import Derived.Deep.AppendLies
import Derived.Maps.AppendAt
import Derived.OwnWalk
import Derived.Laws.BytesArg
import Derived.Laws.MakeOwn
import Derived.Laws.OwnMore
import Derived.Deep.OwnRows
import Derived.Tactics
import Derived.Lib.ConvBytes
import Derived.Laws.Slices
import Derived.WalkKit
import Derived.KernelRfl
import Derived.RowKit3
import Derived.Deep.LoopGhost
import Derived.Deep.QuietTactic
import Derived.BigQuiet
import Derived.WideLaws
import Derived.Deep.DeepCutAuto
import Derived.Deep.CutBlock
import Derived.Deep.RegionHeld3
import Derived.Laws.Rows
import Derived.Lib.AppendStr
import Derived.ArgAppend
import Derived.Laws.IdiomCopy
import Derived.OrdersHeld
import Derived.Laws.BitsLemmas
import Derived.RowKit
import Derived.Test.YtgchnnkbknaklaaWWords
import Derived.Test.YtgchnnkbknaklaaWLast
import Derived.Test.YtgchnnkbknaklaaWTab
import Derived.Test.YtgchnnkbknaklaaWFour
import Derived.Test.YtgchnnkbknaklaaWQPut
import Derived.Test.YtgchnnkbknaklaaWApart
import Derived.Test.YtgchnnkbknaklaaWArr
import Derived.Test.YtgchnnkbknaklaaWZeros
import Derived.Test.YtgchnnkbknaklaaWFoot
import Derived.Test.YtgchnnkbknaklaaWKept
import Derived.Test.YtgchnnkbknaklaaWShare
import Derived.Test.YtgchnnkbknaklaaWN
import Derived.Test.YtgchnnkbknaklaaWFootNe
import Derived.Test.YtgchnnkbknaklaaWAt
import Derived.Test.YtgchnnkbknaklaaWEqStruct
import Derived.Test.YtgchnnkbknaklaaWRepsOne
import Derived.Test.YtgchnnkbknaklaaWInv
import Derived.Test.YtgchnnkbknaklaaWInvWords
import Derived.Test.YtgchnnkbknaklaaWGuard
import Derived.Test.YtgchnnkbknaklaaWNEv
import Derived.Test.YtgchnnkbknaklaaWMore
import Derived.Test.YtgchnnkbknaklaaXQuiet
import Derived.Test.YtgchnnkbknaklaaXRows
namespace Go.Proofs.Ytgchnnkbknaklaa.XMem
open Go.RowKit Go.Proofs.YtgchnnkbknaklaaW.PrintWords Go.Proofs.YtgchnnkbknaklaaW.PrintLast Go.Proofs.YtgchnnkbknaklaaW.PrintMore
/-- Blocks, and what they hold. -/
def Mem (w : World) (L : List (Nat × Obj)) : Prop := ∀ x ∈ L, w.heap[x.1]? = some x.2
theorem Mem.nil (w : World) : Mem w [] := fun _ h => nomatch h
theorem Mem.below {w w' : World} {L : List (Nat × Obj)} (h : Mem w L) (hb : Below w.heap.size w w') : Mem w' L := fun x hx => blk_below (h x hx) hb
theorem Mem.cons {w : World} {L : List (Nat × Obj)} {p : Nat} {o : Obj} (h : Mem w L) (hp : w.heap[p]? = some o) : Mem w ((p, o) :: L) := fun x hx => by
  rcases List.mem_cons.1 hx with rfl | hx
  · exact hp
  · exact h x hx
theorem Mem.get {w : World} {L : List (Nat × Obj)} {p : Nat} {o : Obj} (h : Mem w L) (i : Nat) (hi : L[i]? = some (p, o)) : w.heap[p]? = some o := h (p, o) (List.mem_of_getElem? hi)
theorem Mem.cell {w : World} {L : List (Nat × Obj)} {p t : Nat} {cs : Array Value} {v : Value} (h : Mem w L) (i j : Nat) (hi : L[i]? = some (p, .cells cs t (0, 0))) (hj : cs[j]? = some v) : w.cell? ⟨p, j, none⟩ = some v := (blk_cell (h.get i hi) j).trans hj
theorem Mem.frozen {w : World} {L : List (Nat × Obj)} {p t : Nat} {cs : Array Value} (h : Mem w L) (i j : Nat) (hi : L[i]? = some (p, .cells cs t (0, 0))) : w.frozen? ⟨p, j, none⟩ = false := blk_frozen (h.get i hi) j
theorem al_below {w w1 : World} {o : Obj} (h : w.alloc o = w1) : Below w.heap.size w w1 := h ▸ below_alloc (Below.refl _ _) o
theorem al_new {w w1 : World} {o : Obj} (h : w.alloc o = w1) : w1.heap[w.heap.size]? = some o := h ▸ heap_alloc_new w o
theorem new_drew (w : World) (o : Obj) : (w.alloc o).drew.heap[w.heap.size]? = some o := heap_alloc_new w o
/-- A new block: what was known, and it. -/
theorem Mem.new {w0 w w1 : World} {L : List (Nat × Obj)} {o : Obj} (h : w.alloc o = w1) (hB : Below w0.heap.size w0 w) (hM : Mem w L) : Below w0.heap.size w0 w1 ∧ Mem w1 ((w.heap.size, o) :: L) ∧ Below w.heap.size w w1 := ⟨below_step hB (al_below h), (hM.below (al_below h)).cons (al_new h), al_below h⟩
theorem Mem.new2 {w0 w w1 : World} {L : List (Nat × Obj)} {o o' : Obj} (h : (w.alloc o).alloc o' = w1) (hB : Below w0.heap.size w0 w) (hM : Mem w L) : Below w0.heap.size w0 w1 ∧ Mem w1 ((w.heap.size + 1, o') :: (w.heap.size, o) :: L) ∧ Below w.heap.size w w1 := by
  obtain ⟨h1, h2, h3⟩ := Mem.new (rfl : w.alloc o = _) hB hM
  obtain ⟨k1, k2, k3⟩ := Mem.new h h1 h2
  rw [show (w.alloc o).heap.size = w.heap.size + 1 by simp] at k2
  exact ⟨k1, k2, below_step h3 k3⟩
/-- A slice that is only read. -/
def Im {α : Type} (d : Kd α) (w : World) (v : Value) (l : List α) : Prop := Kd.V d 0 w 0 (fun _ => True) v l
theorem Im.below {α : Type} {d : Kd α} {w w' : World} {v : Value} {l : List α} (h : Im d w v l) (hb : Below w.heap.size w w') : Im d w' v l := Kd.V_below h hb
theorem Im.nil {α : Type} (d : Kd α) (w : World) : Im d w (.slice none 0 0) [] := Kd.V_nil d 0 w 0 _
theorem Im.of_V {α : Type} {d : Kd α} {e base : Nat} {ok : Nat → Prop} {w : World} {v : Value} {l : List α} (h : Kd.V d e w base ok v l) : Im d w v l := Kd.V_mono (e := e) (base := base) h (fun _ _ => trivial)
theorem Im.of_R {α : Type} {d : Kd α} {e base : Nat} {ok : Nat → Prop} {w : World} {v : Value} {l : List α} (h : d.R e w base ok v l) : Im d w v l := Im.of_V (Kd.R_V (base' := 0) h)
theorem Im.slice {α : Type} {d : Kd α} {w : World} {v : Value} {l : List α} (h : Im d w v l) : ∃ A c, v = .slice A l.length c ∧ l.length ≤ c ∧ d.C w A l.length l := by
  obtain ⟨A, c, rfl, hc, hF⟩ := h
  exact ⟨A, c, rfl, hc, Kd.F_now hF⟩
theorem Im.of_C {α : Type} {d : Kd α} (hd : Kd.Heap d) {w : World} {A : Option Addr} {c : Nat} {l : List α} (h : d.C w A l.length l) (hc : l.length ≤ c) : Im d w (.slice A l.length c) l :=
  ⟨A, c, rfl, hc, Kd.F_mono (Kd.C_F hd h) (fun _ _ => trivial)⟩
/-- A literal. -/
theorem Im.lit {α : Type} (d : Kd α) {W W' : World} {e : Nat} {xs : List α} {cs : Array Value} (hw : W.alloc (.cells cs e) = W')
    (hrep : Reps (d.M W W.heap.size (fun _ => True)) d.sz xs cs.toList) (hm : xs.length ≤ 9223372036854775807) :
    Im d W' (.slice (some ⟨W.heap.size, 0, none⟩) xs.length xs.length) xs := by
  obtain ⟨v, h1, h2, rfl⟩ := Go.Proofs.Ytgchnnkbknaklaa.XRows.lit_late d hw (inner := cs.toList) (by simp) hrep hm
  exact Im.of_R h1
end Go.Proofs.Ytgchnnkbknaklaa.XMem
