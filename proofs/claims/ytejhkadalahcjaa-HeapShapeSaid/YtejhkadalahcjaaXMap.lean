/- Maps from whole numbers, told as functions: made, looked up, written, struck, counted. No program is in sight. -/
import Derived.Test.YtejhkadalahcjaaProg
import Derived.WalkKit
import Derived.Maps.OwnSet
import Derived.Maps.OwnOps
namespace Go.Proofs.Ytejhkadalahcjaa.XMap
open Go.RowKit Go.Maps
set_option linter.unusedVariables false
set_option linter.unusedSimpArgs false
/-- Elements of a plain type. -/
structure El (P : Program) (e : TypeId) (α : Type) where
  enc : α → Value
  lit : α → Lit
  ok : α → Prop
  zero : α
  read : ∀ a, ok a → plainElem (H := Unit) P e (enc a) = some (.lit (lit a), [])
  inv : ∀ v z, plainElem (H := Unit) P e v = some z → ∃ a, ok a ∧ v = enc a ∧ z = (.lit (lit a), [])
  inj : ∀ a b, lit a = lit b → a = b
  hz : ∀ w, (zeroValue e).run P w = .ok (enc zero) w
  okz : ok zero
def i64ok (x : Int) : Prop := (Lit.int .i64 x).wf = true
theorem i64ok_mk {x : Int} (h0 : -9223372036854775808 ≤ x) (h1 : x ≤ 9223372036854775807) : i64ok x := by
  exact WalkArith.wf_i64 (by omega)
noncomputable def elInt {P : Program} {e : TypeId} (he : P.underlying e = some (.int .i64)) (hz : ∀ w, (zeroValue e).run P w = .ok (.int .i64 0) w) : El P e Int where
  enc := fun x => .int .i64 x
  lit := fun x => .int .i64 x
  ok := i64ok
  zero := 0
  read := fun a h => plainElem_int he h
  inv := fun v z h => by
    obtain ⟨a, h1, h2, h3⟩ := plainElem_int_inv he h
    exact ⟨a, h3, h1, h2⟩
  inj := fun a b h => by injection h
  hz := hz
  okz := by unfold i64ok; decide
noncomputable def elBool {P : Program} {e : TypeId} (he : P.underlying e = some .bool) (hz : ∀ w, (zeroValue e).run P w = .ok (.bool false) w) : El P e Bool where
  enc := fun x => .bool x
  lit := fun x => .bool x
  ok := fun _ => True
  zero := false
  read := fun a _ => plainElem_bool he a
  inv := fun v z h => by
    unfold plainElem at h
    rw [he] at h
    cases v <;> simp at h
    rename_i x
    exact ⟨x, trivial, rfl, h.symm⟩
  inj := fun a b h => by injection h
  hz := hz
  okz := trivial
section
variable {P : Program} {k e t : TypeId} {α : Type} {w : World} {b n : Nat} {f : Int → Option α}
def MapF (E : El P e α) (k : TypeId) (w : World) (b n : Nat) (f : Int → Option α) : Prop :=
  ∃ D : DataW Unit, w.ownsMap P k (plainElem P e) b n D ∧ Maps.size D = n ∧ ∀ x, i64ok x → Maps.has D (.int .i64 x) = (f x).isSome ∧ D.atKey (.int .i64 x) (.lit (E.lit E.zero)) = .lit (E.lit ((f x).getD E.zero))
theorem key_int (hk : P.underlying k = some (.int .i64)) {x : Int} (hx : i64ok x) : keyOf P k (.int .i64 x) = some (.int .i64 x) := keyOf_int_mk hk hx
theorem own_exact {R : Value → Option (DataW Unit × List MemPlace)} {D : DataW Unit} {m : Nat} (h : w.ownsMap P k R b m D) : w.ownsMap P k R b (Maps.size D) D := by
  obtain ⟨es, clock, hb, F, hs, rfl⟩ := h
  exact ⟨es, clock, hb, F, by simp [Maps.size, length_sorted], rfl⟩
theorem MapF.made (E : El P e α) (w : World) : MapF E k (w.alloc (.map #[] 0)) w.heap.size 0 (fun _ => none) :=
  ⟨.map [], World.ownsMap_made w P k _, rfl, fun x _ => ⟨rfl, by simp [DataW.atKey]⟩⟩
theorem MapF.lt {E : El P e α} (h : MapF E k w b n f) : b < w.heap.size := by
  obtain ⟨D, h, _⟩ := h
  exact h.lt
theorem MapF.block {E : El P e α} (h : MapF E k w b n f) : ∃ es clock, w.heap[b]? = some (.map es clock) := by
  obtain ⟨D, ⟨es, clock, hb, _⟩, _⟩ := h
  exact ⟨es, clock, hb⟩
theorem MapF.kept {E : El P e α} (h : MapF E k w b n f) {w' : World} (hb : w'.heap[b]? = w.heap[b]?) : MapF E k w' b n f := by
  obtain ⟨D, ⟨es, clock, h1, h2, h3⟩, h4⟩ := h
  exact ⟨D, ⟨es, clock, hb.trans h1, h2, h3⟩, h4⟩
theorem MapF.drew {E : El P e α} (h : MapF E k w b n f) : MapF E k w.drew b n f := h
theorem MapF.ext {E : El P e α} (h : MapF E k w b n f) {g : Int → Option α} (hg : ∀ x, i64ok x → f x = g x) : MapF E k w b n g := by
  obtain ⟨D, h1, h2, h3⟩ := h
  exact ⟨D, h1, h2, fun x hx => by rw [← hg x hx]; exact h3 x hx⟩
theorem MapF.look_ok {E : El P e α} (h : MapF E k w b n f) (hk : P.underlying k = some (.int .i64)) (ht : P.underlying t = some (.map k e)) {x : Int} (hx : i64ok x) :
    (Instr.lookup t (.map (some b)) (.int .i64 x) true).run P w = .ok (.tuple #[E.enc ((f x).getD E.zero), .bool (f x).isSome]) w := by
  obtain ⟨D, h1, h2, h3⟩ := h
  obtain ⟨v, ps, hrun, hv⟩ := h1.look_ok (int_keyed hk) ht (E.hz w) (E.read _ E.okz) (key_int hk hx)
  obtain ⟨a, _, rfl, hz⟩ := E.inv _ _ hv
  rw [(h3 x hx).2] at hz
  injection hz with hz _
  injection hz with hz
  rw [hrun, (h3 x hx).1, E.inj _ _ hz]
theorem MapF.look {E : El P e α} (h : MapF E k w b n f) (hk : P.underlying k = some (.int .i64)) (ht : P.underlying t = some (.map k e)) {x : Int} (hx : i64ok x) :
    (Instr.lookup t (.map (some b)) (.int .i64 x) false).run P w = .ok (E.enc ((f x).getD E.zero)) w := by
  obtain ⟨D, h1, h2, h3⟩ := h
  obtain ⟨v, ps, hrun, hv⟩ := h1.lookup (int_keyed hk) ht (E.hz w) (E.read _ E.okz) (key_int hk hx)
  obtain ⟨a, _, rfl, hz⟩ := E.inv _ _ hv
  rw [(h3 x hx).2] at hz
  injection hz with hz _
  injection hz with hz
  rw [hrun, E.inj _ _ hz]
def upd (f : Int → Option α) (x : Int) (v : Option α) : Int → Option α := fun y => if y = x then v else f y
theorem MapF.put {E : El P e α} (h : MapF E k w b n f) (hk : P.underlying k = some (.int .i64)) (ht : P.underlying t = some (.map k e)) {x : Int} (hx : i64ok x) {v : α} (hv : E.ok v) (hn : n < maxLen) :
    ∃ w', (Instr.mapUpdate t (.map (some b)) (.int .i64 x) (E.enc v)).run P w = .ok () w' ∧ MapF E k w' b (if (f x).isSome then n else n + 1) (upd f x (some v)) ∧ w.mapTurned w' b := by
  obtain ⟨D, h1, h2, h3⟩ := h
  have K := int_keyed hk
  obtain ⟨w', hrun, r1, r2⟩ := h1.store K ht hn (key_int hk hx) (E.read _ hv)
  have hT := h1.tidy K
  have hM := h1.isMap
  have hkl := K.key (key_int hk hx)
  have hsz : Maps.size (D.put (.int .i64 x) (.lit (E.lit v))) = (if (f x).isSome then n else n + 1) := by
    rw [size_put hT, (h3 x hx).1, h2]
  refine ⟨w', hrun, ⟨_, hsz ▸ own_exact r1, hsz, fun y hy => ?_⟩, r2⟩
  by_cases c : y = x
  · subst c
    rw [has_put_same hM hkl, atKey_put_same hM hkl]
    simp [upd]
  · have hne : Lit.int .i64 y ≠ Lit.int .i64 x := fun q => c (by injection q)
    rw [has_put_other hne, atKey_put_other hne]
    simpa [upd, c] using h3 y hy
theorem MapF.del {E : El P e α} (h : MapF E k w b n f) (hk : P.underlying k = some (.int .i64)) (ht : P.underlying t = some (.map k e)) {x : Int} (hx : i64ok x) (ty : TypeId) :
    ∃ w', (Builtin.delete_ #[t, k] ty #[.map (some b), .int .i64 x]).run P w = .ok (.tuple #[]) w' ∧ MapF E k w' b (if (f x).isSome then n - 1 else n) (upd f x none) ∧ w.mapTurned w' b := by
  obtain ⟨D, h1, h2, h3⟩ := h
  have K := int_keyed hk
  obtain ⟨w', hrun, r1, r2⟩ := h1.drop K ht (key_int hk hx) ty
  have hT := h1.tidy K
  have hsz : Maps.size (D.del (.int .i64 x)) = (if (f x).isSome then n - 1 else n) := by
    have := size_del (k := .int .i64 x) hT
    rw [(h3 x hx).1, h2] at this
    split at this <;> simp_all <;> omega
  refine ⟨w', hrun, ⟨_, hsz ▸ own_exact r1, hsz, fun y hy => ?_⟩, r2⟩
  by_cases c : y = x
  · subst c
    rw [has_del_same, atKey_del_same]
    simp [upd]
  · have hne : Lit.int .i64 y ≠ Lit.int .i64 x := fun q => c (by injection q)
    rw [has_del_other hne, atKey_del_other hne]
    simpa [upd, c] using h3 y hy
theorem MapF.len {E : El P e α} (h : MapF E k w b n f) (ht : P.underlying t = some (.map k e)) (ty : TypeId) : (Builtin.len_ #[t] ty #[.map (some b)]).run P w = .ok (.int .i64 n) w := by
  obtain ⟨D, h1, h2, h3⟩ := h
  rw [h1.len ht ty, h2]
end
section
variable {P : Program} {k e t : TypeId} {α : Type} {w : World} {ops : Array Oper} {rest : List Oper} {o : Oper} {a : Act} {Q : Exit → Act → World → Prop} {b n : Nat} {f : Int → Option α}
theorem wp_look_ok (E : El P e α) (hg : o.guard = none) (m x : Operand) (hop : o.op = Op.lookup t m x true) (hk : P.underlying k = some (.int .i64)) (ht : P.underlying t = some (.map k e)) (hm : a.eval m = .map (some b)) (h : MapF E k w b n f) (y : Int) (hx : a.eval x = .int .i64 y) (hy : i64ok y)
    (hK : wpList P ops Q rest (a.put o.dst (.tuple #[E.enc ((f y).getD E.zero), .bool (f y).isSome])) w) : wpList P ops Q (o :: rest) a w := by
  refine wpList_plain hg fun K' hK' => ?_
  unfold Oper.wp
  simp [execOp, hop, hm, hx, h.look_ok hk ht hy, Result.andThen]
  exact hK' _ _ hK
theorem wp_look (E : El P e α) (hg : o.guard = none) (m x : Operand) (hop : o.op = Op.lookup t m x false) (hk : P.underlying k = some (.int .i64)) (ht : P.underlying t = some (.map k e)) (hm : a.eval m = .map (some b)) (h : MapF E k w b n f) (y : Int) (hx : a.eval x = .int .i64 y) (hy : i64ok y)
    (hK : wpList P ops Q rest (a.put o.dst (E.enc ((f y).getD E.zero))) w) : wpList P ops Q (o :: rest) a w := by
  refine wpList_plain hg fun K' hK' => ?_
  unfold Oper.wp
  simp [execOp, hop, hm, hx, h.look hk ht hy, Result.andThen]
  exact hK' _ _ hK
theorem wp_put (E : El P e α) (hg : o.guard = none) (m x v : Operand) (hop : o.op = Op.mapUpdate t m x v) (hk : P.underlying k = some (.int .i64)) (ht : P.underlying t = some (.map k e)) (hm : a.eval m = .map (some b)) (h : MapF E k w b n f) (y : Int) (hx : a.eval x = .int .i64 y) (hy : i64ok y) (z : α) (hv : a.eval v = E.enc z) (hz : E.ok z) (hn : n < maxLen)
    (hK : ∀ w', MapF E k w' b (if (f y).isSome then n else n + 1) (upd f y (some z)) → w.mapTurned w' b → wpList P ops Q rest (a.put o.dst undef) w') : wpList P ops Q (o :: rest) a w := by
  refine wpList_plain hg fun K' hK' => ?_
  obtain ⟨w', hrun, h1, h2⟩ := h.put hk ht hy hz hn
  unfold Oper.wp
  simp [execOp, hop, hm, hx, hv, hrun, Result.andThen]
  exact hK' _ _ (hK w' h1 h2)
theorem wp_del (E : El P e α) (hg : o.guard = none) (m x : Operand) (hop : o.op = Op.call { callee := Callee.builtin Builtin.delete, args := #[m, x], argTypes := #[t, k] }) (hk : P.underlying k = some (.int .i64)) (ht : P.underlying t = some (.map k e)) (hm : a.eval m = .map (some b)) (h : MapF E k w b n f) (y : Int) (hx : a.eval x = .int .i64 y) (hy : i64ok y)
    (hK : ∀ w', MapF E k w' b (if (f y).isSome then n - 1 else n) (upd f y none) → w.mapTurned w' b → wpList P ops Q rest (a.put o.dst (.tuple #[])) w') : wpList P ops Q (o :: rest) a w := by
  refine wpList_plain hg fun K' hK' => ?_
  obtain ⟨w', hrun, h1, h2⟩ := h.del hk ht hy o.type
  unfold Oper.wp
  simp [execOp, hop, resolve, invoke, builtin, hm, hx, hrun, Result.andThen]
  exact hK' _ _ (hK w' h1 h2)
theorem wp_len (E : El P e α) (hg : o.guard = none) (m : Operand) (hop : o.op = Op.call { callee := Callee.builtin Builtin.len, args := #[m], argTypes := #[t] }) (ht : P.underlying t = some (.map k e)) (hm : a.eval m = .map (some b)) (h : MapF E k w b n f)
    (hK : wpList P ops Q rest (a.put o.dst (.int .i64 n)) w) : wpList P ops Q (o :: rest) a w := by
  refine wpList_plain hg fun K' hK' => ?_
  unfold Oper.wp
  simp [execOp, hop, resolve, invoke, builtin, hm, h.len ht o.type, Result.andThen]
  exact hK' _ _ hK
theorem turned_heap {w w' : World} {b : Nat} (h : w.mapTurned w' b) {i : Nat} (hi : i ≠ b) : w'.heap[i]? = w.heap[i]? := by
  obtain ⟨es, clock, es', clock', hb, rfl⟩ := h
  exact ChangeMaps.heap_setBlock_other hb _ hi
theorem turned_size {w w' : World} {b : Nat} (h : w.mapTurned w' b) : w'.heap.size = w.heap.size := by
  obtain ⟨es, clock, es', clock', hb, rfl⟩ := h
  simp [ChangeMaps.setBlock]
theorem turned_world {w w' : World} {b : Nat} (h : w.mapTurned w' b) : w'.os = w.os ∧ w'.tape = w.tape ∧ w'.output = w.output := by
  obtain ⟨es, clock, es', clock', hb, rfl⟩ := h
  exact ⟨rfl, rfl, rfl⟩
end
end Go.Proofs.Ytejhkadalahcjaa.XMap
