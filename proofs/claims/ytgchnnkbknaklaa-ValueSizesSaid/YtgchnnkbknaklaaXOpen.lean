/- What came in and reads as data is of its kind: a law's arguments of whatever type (numbers, bools, texts, slices, structs, arrays of these, one in the other), opened by their kinds. -/
import Derived.Test.YtgchnnkbknaklaaProg
import Derived.Deep.Slices
import Derived.Deep.Fields
import Derived.ChangeSame
import Derived.OpenShut
import Derived.WideShapes
import Derived.Below
import Derived.Deep.Draws
import Derived.Deep.AppendLies
import Derived.Maps.AppendAt
import Derived.OwnWalk
import Derived.Laws.BytesArg
import Derived.Laws.MakeOwn
import Derived.Laws.OwnMore
import Derived.Deep.OwnRows
import Derived.Tactics
import Derived.Lib.ConvBytes
import Derived.Laws.Slices
import Derived.WalkKit
import Derived.KernelRfl
import Derived.RowKit3
import Derived.Deep.LoopGhost
import Derived.Deep.QuietTactic
import Derived.BigQuiet
import Derived.WideLaws
import Derived.Deep.DeepCutAuto
import Derived.Deep.CutBlock
import Derived.Deep.RegionHeld3
import Derived.Laws.Rows
import Derived.Lib.AppendStr
import Derived.ArgAppend
import Derived.Laws.IdiomCopy
import Derived.OrdersHeld
import Derived.Laws.BitsLemmas
import Derived.RowKit
import Derived.Test.YtgchnnkbknaklaaWWords
import Derived.Test.YtgchnnkbknaklaaWLast
import Derived.Test.YtgchnnkbknaklaaWTab
import Derived.Test.YtgchnnkbknaklaaWFour
import Derived.Test.YtgchnnkbknaklaaWQPut
import Derived.Test.YtgchnnkbknaklaaWApart
import Derived.Test.YtgchnnkbknaklaaWArr
import Derived.Test.YtgchnnkbknaklaaWZeros
import Derived.Test.YtgchnnkbknaklaaWFoot
import Derived.Test.YtgchnnkbknaklaaWKept
import Derived.Test.YtgchnnkbknaklaaWShare
import Derived.Test.YtgchnnkbknaklaaWN
import Derived.Test.YtgchnnkbknaklaaWFootNe
import Derived.Test.YtgchnnkbknaklaaWAt
import Derived.Test.YtgchnnkbknaklaaWEqStruct
import Derived.Test.YtgchnnkbknaklaaWRepsOne
import Derived.Test.YtgchnnkbknaklaaWInv
import Derived.Test.YtgchnnkbknaklaaWInvWords
import Derived.Test.YtgchnnkbknaklaaWGuard
import Derived.Test.YtgchnnkbknaklaaWNEv
import Derived.Test.YtgchnnkbknaklaaWMore

namespace Go.Proofs.Ytgchnnkbknaklaa.XOpen
open Go.RowKit Go.ChangeShapes Go.WideShapes Go.Deep Go.Proofs.YtgchnnkbknaklaaW.PrintWords Go.Proofs.YtgchnnkbknaklaaW.PrintLast Go.Proofs.YtgchnnkbknaklaaW.PrintMore
set_option linter.unusedVariables false
set_option linter.unusedSimpArgs false

/-- Whatever reads as data at type t is of kind d, and within its bounds. -/
def Opens (P : Program) (t : TypeId) {α : Type} (d : Kd α) (Ok : α → Prop) : Prop :=
  ∀ {H : Type} (enc : TypeId × Value → H) (w : World) (base : Nat) (spare : Nat → Bool) (held : Bool) (fuel : Nat) (cs : List Value) (x : DataW H × List MemPlace),
    DataW.trod enc P w base spare held fuel t cs = some x → ∃ a, d.K w a cs ∧ Ok a
/-- The same of a struct's fields (an array's elements), one behind the other. -/
def OpensL (P : Program) (ts : List TypeId) {α : Type} (d : Kd α) (Ok : α → Prop) : Prop :=
  ∀ {H : Type} (enc : TypeId × Value → H) (w : World) (base : Nat) (spare : Nat → Bool) (held : Bool) (fuel : Nat) (css : List (List Value)),
    css.length = ts.length → (∀ (j : Nat) (t : TypeId) (cs : List Value), ts[j]? = some t → css[j]? = some cs → ∃ x : DataW H × List MemPlace, DataW.trod enc P w base spare held fuel t cs = some x) → ∃ a, d.K w a css.flatten ∧ Ok a
section
variable {P : Program} {t e : TypeId}
theorem Opens.int {k : IntKind} (ht : P.underlying t = some (.int k)) : Opens P t (Kd.int k) (fun n => (Lit.int k n).wf = true) := by
  intro H enc w base spare held fuel cs x h
  obtain ⟨n, rfl, _, hw⟩ := DataW.trod_int ht h
  exact ⟨n, rfl, hw⟩
theorem Opens.bool (ht : P.underlying t = some .bool) : Opens P t Kd.bool (fun _ => True) := by
  intro H enc w base spare held fuel cs x h
  obtain ⟨n, rfl, _⟩ := DataW.trod_bool ht h
  exact ⟨n, rfl, trivial⟩
theorem Opens.string (ht : P.underlying t = some .string) : Opens P t Kd.string (fun s => s.size ≤ maxLen) := by
  intro H enc w base spare held fuel cs x h
  obtain ⟨s, rfl, _, hw⟩ := DataW.trod_string ht h
  exact ⟨s, rfl, hw⟩
theorem Opens.slice {α : Type} {d : Kd α} {Ok : α → Prop} (ht : P.underlying t = some (.slice e)) (hc : P.cellsOf e = d.sz) (z : α) (hd : Opens P e d Ok) : Opens P t (Kd.slice e d) (fun l => l.length ≤ maxLen ∧ ∀ a ∈ l, Ok a) := by
  intro H enc w base spare held fuel cs x h
  rcases open_slice ht h with ⟨rfl, _⟩ | ⟨a, len, cap, m, n, D, Pl, rfl, hb, hl, hm, hmm, _, hx⟩
  · exact ⟨[], ⟨none, 0, rfl, Nat.le_refl _, ⟨rfl, Nat.zero_le _, fun h => absurd h (Nat.lt_irrefl _)⟩⟩, Nat.zero_le _, fun a ha => by cases ha⟩
  · have hlm : len ≤ m := by rw [hmm]; split <;> omega
    have : Inhabited α := ⟨z⟩
    obtain ⟨f, hf⟩ := choose_lt (α := α) (n := len) (p := fun i a' => ∃ cs', w.cells? base (a.add (i * d.sz)) d.sz = some cs' ∧ d.K w a' cs' ∧ Ok a') (fun i hi => by
      obtain ⟨cs', h1, h2⟩ := hx i (by omega)
      obtain ⟨a', h3, h4⟩ := hd enc w base spare held n cs' _ h2
      rw [hc] at h1
      exact ⟨a', cs', h1, h3, h4⟩)
    refine ⟨(List.range len).map f, ⟨some a, cap, by simp, by simpa using hl, ?_⟩, by simp; omega, ?_⟩
    · refine ⟨by simp, by simp; unfold maxLen at hm; omega, fun _ => ⟨a, rfl, fun j p hj => ?_⟩⟩
      have hjl : j < len := by
        have := (List.getElem?_eq_some_iff.1 hj).1
        simpa using this
      have hp : f j = p := by simpa [List.getElem?_map, hjl] using hj
      subst hp
      obtain ⟨cs', h1, h2, _⟩ := hf j hjl
      obtain ⟨_, h3, h4⟩ := World.cells?_some h1
      refine ⟨cs', h3, h2, fun i u hi => ?_⟩
      have hil : i < d.sz := by rw [← h3]; exact (List.getElem?_eq_some_iff.1 hi).1
      rw [← Go.Deep.add_add, h4 i hil, hi]
    · intro b hb'
      obtain ⟨j, hj, rfl⟩ := List.mem_map.1 hb'
      obtain ⟨_, _, _, h⟩ := hf j (by simpa using hj)
      exact h
theorem OpensL.one {α : Type} {d : Kd α} {Ok : α → Prop} (h : Opens P t d Ok) : OpensL P [t] d Ok := by
  intro H enc w base spare held fuel css hl hx
  match css, hl with
  | [cs], _ =>
    obtain ⟨x, h1⟩ := hx 0 t cs rfl rfl
    obtain ⟨a, h2⟩ := h enc w base spare held fuel cs x h1
    exact ⟨a, by simpa using h2⟩
theorem OpensL.cons {ts : List TypeId} {α β : Type} {d : Kd α} {Ok : α → Prop} {d2 : Kd β} {Ok2 : β → Prop} (h : Opens P t d Ok) (h2 : OpensL P ts d2 Ok2) : OpensL P (t :: ts) (Kd.pair d d2) (fun x => Ok x.1 ∧ Ok2 x.2) := by
  intro H enc w base spare held fuel css hl hx
  match css, hl with
  | cs :: css, hl =>
    obtain ⟨x, h1⟩ := hx 0 t cs rfl rfl
    obtain ⟨a, h3, h4⟩ := h enc w base spare held fuel cs x h1
    obtain ⟨b, h5, h6⟩ := h2 enc w base spare held fuel css (by simpa using hl) (fun j t' cs' hj hj' => hx (j + 1) t' cs' (by simpa using hj) (by simpa using hj'))
    exact ⟨(a, b), ⟨cs, css.flatten, rfl, h3, h5⟩, h4, h6⟩
theorem Opens.iso {α β : Type} {d : Kd α} {Ok : α → Prop} (h : Opens P t d Ok) (f : β → α) (g : α → β) (hfg : ∀ a, f (g a) = a) : Opens P t (Kd.iso d f) (fun b => Ok (f b)) := by
  intro H enc w base spare held fuel cs x hx
  obtain ⟨a, h1, h2⟩ := h enc w base spare held fuel cs x hx
  exact ⟨g a, by show d.K w (f (g a)) cs; rw [hfg]; exact h1, by show Ok (f (g a)); rw [hfg]; exact h2⟩
/-- Cells, cut at the fields. -/
def cuts (cs : List Value) : List Nat → List (List Value)
  | [] => []
  | n :: ns => cs.take n :: cuts (cs.drop n) ns
theorem cuts_len : ∀ (cs : List Value) (ns : List Nat), (cuts cs ns).length = ns.length
  | _, [] => rfl
  | cs, n :: ns => by simp [cuts, cuts_len]
theorem cuts_flat : ∀ (cs : List Value) (ns : List Nat), cs.length = ns.sum → (cuts cs ns).flatten = cs
  | cs, [], h => by
    have : cs = [] := List.length_eq_zero_iff.1 (by simpa using h)
    simp [cuts, this]
  | cs, n :: ns, h => by
    simp only [List.sum_cons] at h
    simp only [cuts, List.flatten_cons]
    rw [cuts_flat (cs.drop n) ns (by rw [List.length_drop]; omega), List.take_append_drop]
theorem cuts_get : ∀ (cs : List Value) (ns : List Nat) (j : Nat) (n : Nat), ns[j]? = some n → (cuts cs ns)[j]? = some ((cs.drop (ns.take j).sum).take n)
  | _, [], _, _, h => by simp at h
  | cs, m :: ns, 0, n, h => by
    have : m = n := by simpa using h
    subst this
    simp [cuts]
  | cs, m :: ns, j + 1, n, h => by
    have := cuts_get (cs.drop m) ns j n (by simpa using h)
    simp only [cuts, List.getElem?_cons_succ, this, List.take_succ_cons, List.sum_cons, List.drop_drop]
theorem Opens.struct {α : Type} {d : Kd α} {Ok : α → Prop} {fs : Array Field} (ts : List TypeId) (ns : List Nat) (ht : P.underlying t = some (.struct fs)) (hts : fs.toList.map (·.type) = ts) (hns : ts.map P.cellsOf = ns) (hof : fs.toList.map (·.offset) = (List.range ns.length).map fun j => (ns.take j).sum) (hC : P.cellsOf t = ns.sum) (h : OpensL P ts d Ok) : Opens P t d Ok := by
  intro H enc w base spare held fuel cs x hx
  obtain ⟨xs, n, _, _, hl, hxs, hf⟩ := DataW.trod_struct ht hx
  have hlen : ts.length = fs.size := by rw [← hts]; simp
  have hlen2 : ns.length = ts.length := by rw [← hns]; simp
  obtain ⟨a, h1, h2⟩ := h enc w base spare held n (cuts cs ns) (by rw [cuts_len, hlen2]) (fun j t' cs' hj hj' => by
    have hjt : j < ts.length := (List.getElem?_eq_some_iff.1 hj).1
    have hjf : fs[j]? = some (fs[j]'(by omega)) := Array.getElem?_eq_getElem (by omega)
    have e1 : (fs[j]'(by omega)).type = t' := by
      have : (fs.toList.map (·.type))[j]? = some t' := by rw [hts]; exact hj
      simpa [List.getElem?_map, hjf] using this
    have e2 : ns[j]? = some (P.cellsOf t') := by rw [← hns, List.getElem?_map, hj]; rfl
    have e3 : (fs[j]'(by omega)).offset = (ns.take j).sum := by
      have : (fs.toList.map (·.offset))[j]? = ((List.range ns.length).map fun j => (ns.take j).sum)[j]? := by rw [hof]
      simpa [List.getElem?_map, hjf, show j < ns.length by omega] using this
    have h3 := hf j _ hjf
    rw [e1, e3] at h3
    rw [cuts_get cs ns j _ e2] at hj'
    injection hj' with hj'
    rw [hj'] at h3
    exact ⟨xs[j]'(by omega), by rw [h3]; exact List.getElem?_eq_getElem (by omega)⟩)
  rw [cuts_flat cs ns (by rw [hl, hC])] at h1
  exact ⟨a, h1, h2⟩
theorem Opens.array {α : Type} {d : Kd α} {Ok : α → Prop} {n : Nat} (m : Nat) (ht : P.underlying t = some (.array n e)) (hc : P.cellsOf e = m) (hC : P.cellsOf t = (List.replicate n m).sum) (h : OpensL P (List.replicate n e) d Ok) : Opens P t d Ok := by
  intro H enc w base spare held fuel cs x hx
  obtain ⟨xs, f, _, _, hl, hxs, hf⟩ := DataW.trod_array ht hx
  obtain ⟨a, h1, h2⟩ := h enc w base spare held f (cuts cs (List.replicate n m)) (by rw [cuts_len]; simp) (fun j t' cs' hj hj' => by
    have hjn : j < n := by
      have := (List.getElem?_eq_some_iff.1 hj).1
      simpa using this
    have e1 : e = t' := by simpa [hjn] using hj
    subst e1
    have h3 := hf j hjn
    rw [hc] at h3
    rw [cuts_get cs _ j m (by simp [hjn])] at hj'
    have e2 : ((List.replicate n m).take j).sum = j * m := by
      rw [List.take_replicate, List.sum_replicate_nat, Nat.min_eq_left (by omega)]
    rw [e2] at hj'
    injection hj' with hj'
    rw [hj'] at h3
    exact ⟨xs[j]'(by omega), by rw [h3]; exact List.getElem?_eq_getElem (by omega)⟩)
  rw [cuts_flat cs _ (by rw [hl, hC])] at h1
  exact ⟨a, h1, h2⟩
theorem okWide_agg {w : World} {r : Reach} {base : Nat} {v : Value} {n : Nat} (ht : P.underlying t = some (.array n e)) (h : Value.okWide P w r base t v) : ∃ cs, v = .agg cs ∧ cs.size = P.cellsOf t := by
  simp only [Value.okWide, ht] at h
  obtain ⟨cs, h1, h2, _⟩ := h
  exact ⟨cs, h1, h2⟩
end
end Go.Proofs.Ytgchnnkbknaklaa.XOpen
