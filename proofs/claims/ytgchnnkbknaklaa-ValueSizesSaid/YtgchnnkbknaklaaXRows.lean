/- Rows of one's own: their shape in memory; the built-in clear behind their end. No program is in sight. -/
import Derived.Test.YtgchnnkbknaklaaProg
import Derived.Below
import Derived.Deep.Draws
import Derived.Deep.AppendLies
import Derived.Maps.AppendAt
import Derived.OwnWalk
import Derived.Laws.BytesArg
import Derived.Laws.MakeOwn
import Derived.Laws.OwnMore
import Derived.Deep.OwnRows
import Derived.Tactics
import Derived.Lib.ConvBytes
import Derived.Laws.Slices
import Derived.WalkKit
import Derived.KernelRfl
import Derived.RowKit3
import Derived.Deep.LoopGhost
import Derived.Deep.QuietTactic
import Derived.BigQuiet
import Derived.WideLaws
import Derived.Deep.DeepCutAuto
import Derived.Deep.CutBlock
import Derived.Deep.RegionHeld3
import Derived.Laws.Rows
import Derived.Lib.AppendStr
import Derived.ArgAppend
import Derived.Laws.IdiomCopy
import Derived.OrdersHeld
import Derived.Laws.BitsLemmas
import Derived.RowKit
import Derived.Test.YtgchnnkbknaklaaWWords
import Derived.Test.YtgchnnkbknaklaaWLast
import Derived.Test.YtgchnnkbknaklaaWTab
import Derived.Test.YtgchnnkbknaklaaWFour
import Derived.Test.YtgchnnkbknaklaaWQPut
import Derived.Test.YtgchnnkbknaklaaWApart
import Derived.Test.YtgchnnkbknaklaaWArr
import Derived.Test.YtgchnnkbknaklaaWZeros
import Derived.Test.YtgchnnkbknaklaaWFoot
import Derived.Test.YtgchnnkbknaklaaWKept
import Derived.Test.YtgchnnkbknaklaaWShare
import Derived.Test.YtgchnnkbknaklaaWN
import Derived.Test.YtgchnnkbknaklaaWFootNe
import Derived.Test.YtgchnnkbknaklaaWAt
import Derived.Test.YtgchnnkbknaklaaWEqStruct
import Derived.Test.YtgchnnkbknaklaaWRepsOne
import Derived.Test.YtgchnnkbknaklaaWInv
import Derived.Test.YtgchnnkbknaklaaWInvWords
import Derived.Test.YtgchnnkbknaklaaWGuard
import Derived.Test.YtgchnnkbknaklaaWNEv
import Derived.Test.YtgchnnkbknaklaaWMore
import Derived.Lib.SliceRun
namespace Go.Proofs.Ytgchnnkbknaklaa.XRows
open Go.RowKit Go.Proofs.YtgchnnkbknaklaaW.PrintWords Go.Proofs.YtgchnnkbknaklaaW.PrintLast Go.Proofs.YtgchnnkbknaklaaW.PrintMore
set_option linter.unusedVariables false
set_option linter.unusedSimpArgs false
theorem R_shape {α : Type} {d : Kd α} {e : Nat} {W : World} {base : Nat} {ok : Nat → Prop} {v : Value} {xs : List α} (h : d.R e W base ok v xs) (hne : 0 < xs.length) :
    ∃ g c cur, v = .slice (some ⟨g, 0, none⟩) xs.length c ∧ xs.length ≤ c ∧ c ≤ 9223372036854775807 ∧ W.heap[g]? = some (.cells cur e (0, 0)) ∧ cur.size = c * d.sz ∧ ok g ∧ base ≤ g := by
  obtain ⟨hok, inner, hown, hr⟩ := h
  rcases hown.2 with ⟨_, hv⟩ | ⟨g, cap, cur, hv, hb, hh, hnc, hcm, hcs, _⟩
  · omega
  · exact ⟨g, cap, cur, hv, hnc, hcm, hh, hcs, hok g (by rw [hv]; rfl), hb⟩
theorem R_block {α : Type} {d : Kd α} {e : Nat} {W : World} {base : Nat} {ok : Nat → Prop} {g m c : Nat} {xs : List α} (h : d.R e W base ok (.slice (some ⟨g, 0, none⟩) m c) xs) :
    ∃ cur, W.heap[g]? = some (.cells cur e (0, 0)) ∧ cur.size = c * d.sz ∧ m = xs.length ∧ m ≤ c ∧ g < W.heap.size := by
  obtain ⟨hok, inner, hown, hr⟩ := h
  rcases hown.2 with ⟨hv, _⟩ | ⟨g', cap', cur, hv, hb, hh, hnc, hcm, hcs, htake⟩
  · cases hv
  injection hv with ha hm hc
  injection ha with ha
  injection ha with hg
  subst hg; subst hc
  exact ⟨cur, hh, hcs, hm, by omega, blk_lt hh⟩
theorem R_clear {α : Type} {d : Kd α} {e : Nat} {W : World} {base : Nat} {ok : Nat → Prop} {g m c : Nat} {xs : List α} (h : d.R e W base ok (.slice (some ⟨g, 0, none⟩) m c) xs) (o : Nat) (vs : List Value) (ho : m * d.sz ≤ o) (hfit : o + vs.length ≤ c * d.sz) :
    d.R e (W.setCells g o vs) base ok (.slice (some ⟨g, 0, none⟩) m c) xs := by
  obtain ⟨hok, inner, hown, hr⟩ := h
  rcases hown.2 with ⟨hv, _⟩ | ⟨g', cap', cur, hv, hb, hh, hnc, hcm, hcs, htake⟩
  · cases hv
  injection hv with ha hm hc
  injection ha with ha
  injection ha with hg
  subst hg; subst hc; subst hm
  obtain ⟨cur', h3, h4, h5⟩ := setCells_row vs o W cur hh (by omega)
  refine ⟨hok, inner, ⟨hown.1, .inr ⟨g, c, cur', rfl, hb, h3, hnc, hcm, by rw [h4, hcs], ?_⟩⟩, hr.imp_ (fun _ _ hp => d.M_move (fun k hk => setCells_far vs o k (fun he => hk.2 (by rw [he]; rfl))) hp)⟩
  rw [h5, List.append_assoc, List.take_append_of_le_length (by rw [List.length_take]; exact Nat.le_min.2 ⟨ho, Nat.le_trans (Nat.mul_le_mul_right _ hnc) (Nat.le_of_eq ((Array.length_toList (xs := cur)).trans hcs).symm)⟩), List.take_take, Nat.min_eq_left ho]
  exact htake
theorem run_clear_row {P : Program} (w : World) (t e ty : TypeId) (z : Value) (ht : P.underlying t = some (.slice e)) (hv : ∀ w, (zeroValue e).run P w = .ok z w) (b o n c : Nat) (hn : 0 < n) (h1 : ∀ u ∈ (Builtin.zeroCells z.cells n).toList, u.oneCell' = true)
    (hc : ∀ j, j < (Builtin.zeroCells z.cells n).toList.length → (w.cell? ⟨b, o + j, none⟩).isSome = true) (hf : ∀ j, j < (Builtin.zeroCells z.cells n).toList.length → w.frozen? ⟨b, o + j, none⟩ = false) :
    (Builtin.clear_ #[t] ty #[.slice (some ⟨b, o, none⟩) n c]).run P w = .ok (.tuple #[]) (w.setCells b o (Builtin.zeroCells z.cells n).toList) := by
  have hst := run_storeCells_cells (P := P) b o (Builtin.zeroCells z.cells n).toList 0 w (by simpa using hc) (by simpa using hf) h1
  simp only [Nat.add_zero] at hst
  obtain ⟨m, rfl⟩ : ∃ m, n = m + 1 := ⟨n - 1, by omega⟩
  simp [Builtin.clear_, run_underlying ht, hv, hst]
/-- The built-in clear of the one element behind a row's end. -/
theorem clear_end {P : Program} {α : Type} {d : Kd α} {e : Nat} {W : World} {base : Nat} {ok : Nat → Prop} {g m c : Nat} {xs : List α} (h : d.R e W base ok (.slice (some ⟨g, 0, none⟩) m c) xs) (t ty : TypeId) (z : Value) (ht : P.underlying t = some (.slice e)) (hv : ∀ w, (zeroValue e).run P w = .ok z w)
    (h1 : (Builtin.zeroCells z.cells 1).toList.length = d.sz ∧ ∀ u ∈ (Builtin.zeroCells z.cells 1).toList, u.oneCell' = true) (hmc : m < c) (cc o k : Nat) (ho : o = m * d.sz) (hk : k = 1) :
    ∃ w1, (Builtin.clear_ #[t] ty #[.slice (some ⟨g, o, none⟩) k cc]).run P W = .ok (.tuple #[]) w1 ∧ d.R e w1 base ok (.slice (some ⟨g, 0, none⟩) m c) xs ∧ W.grownBy w1 (some g) := by
  subst hk
  subst ho
  obtain ⟨cur, hh, hcs, _, _, _⟩ := R_block h
  have hle : (m + 1) * d.sz ≤ c * d.sz := Nat.mul_le_mul_right _ hmc
  rw [Nat.succ_mul] at hle
  have hrun := run_clear_row (P := P) W t e ty z ht hv g (m * d.sz) 1 cc (by omega) h1.2 (fun j hj => by rw [h1.1] at hj; rw [cell_of_row W g _ cur e (0, 0) hh]; simp; omega) (fun j _ => blk_frozen hh _)
  obtain ⟨s1, s2, s3, s4⟩ := setCells_same g (Builtin.zeroCells z.cells 1).toList (m * d.sz) W
  exact ⟨_, hrun, R_clear h _ _ (Nat.le_refl _) (by rw [h1.1]; omega), ⟨s1, s2, s3, by rw [s4]; exact Nat.le_refl _, fun k' _ hk' => setCells_far _ _ k' (fun he => hk' (by rw [he]))⟩⟩
/-- A shared row that holds an element lies in a block of its own. -/
theorem V_inside {α : Type} {d : Kd α} {e : Nat} {W : World} {base : Nat} {ok : Nat → Prop} {ad : Addr} {n c : Nat} {xs : List α} (h : Kd.V d e W base ok (.slice (some ad) n c) xs) (z : α) (hs : 0 < d.sz) (i : Int) (h0 : (0 ≤ i) = True) (h1 : (i < (n : Int)) = True) : ok ad.block := by
  obtain ⟨ad', cs, he, _, _, _, hk⟩ := Kd.F_get (Kd.V_F h) z i (of_eq_true h0) (of_eq_true h1)
  injection he with he
  subst he
  exact hk hs
theorem gate_calls {P : Program} {f : FuncId} {args : Array Value} {W : World} {Q : Ending → World → Prop} (h : Calls P f args W Q) : Calls P f args W Q := h
theorem gate_lit {P : Program} {f : FuncId} {args : Array Value} {W : World} {Q : Ending → World → Prop} (cs : Array Value) (e : Nat) (h : Calls P f args (W.alloc (.cells cs e)) Q) : Calls P f args (W.alloc (.cells cs e)) Q := h
/-- A literal that the walk has made by itself, told behind. -/
theorem lit_late {α : Type} (d : Kd α) {W W' : World} {e : Nat} {xs : List α} {inner : List Value} {cs : Array Value} (hw : W.alloc (.cells cs e) = W') (hcs : cs = inner.toArray)
    (hrep : Reps (d.M W W.heap.size (fun _ => True)) d.sz xs inner) (hm : xs.length ≤ 9223372036854775807) :
    ∃ v : Value, d.R e W' W.heap.size (fun _ => True) v xs ∧ Below W.heap.size W W' ∧ v = .slice (some ⟨W.heap.size, 0, none⟩) xs.length xs.length := by
  subst hw
  subst hcs
  refine ⟨_, ⟨fun _ _ => trivial, inner, ?_, ?_⟩, below_alloc (Below.refl _ _) _, rfl⟩
  · have h2 := World.ownsRow_lit (base := W.heap.size) (e := e) (size := d.sz) W inner.toArray xs.length (Nat.le_refl _) (by simpa [maxLen] using hm) (by simpa using hrep.1)
    simpa using h2
  · refine hrep.imp_ (fun p c hp => d.M_mono (fun k hk => ⟨trivial, fun he => ?_⟩) (Kd.M_below (d.M_bound hp) (below_alloc (Below.refl _ _) _)))
    have h3 : k = W.heap.size := by simpa [Value.ownBlock] using he
    have := hk.2.2.1
    omega
end Go.Proofs.Ytgchnnkbknaklaa.XRows
