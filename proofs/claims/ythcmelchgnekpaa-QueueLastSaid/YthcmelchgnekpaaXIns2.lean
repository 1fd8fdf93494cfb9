-- Several texts in one (wip/tools/mergex.py).
import Derived.Test.YthcmelchgnekpaaProg
import Derived.Below
import Derived.Deep.Draws
import Derived.Deep.AppendLies
import Derived.Maps.AppendAt
import Derived.OwnWalk
import Derived.Laws.BytesArg
import Derived.Laws.MakeOwn
import Derived.Laws.OwnMore
import Derived.Deep.OwnRows
import Derived.Tactics
import Derived.Lib.ConvBytes
import Derived.Laws.Slices
import Derived.WalkKit
import Derived.KernelRfl
import Derived.RowKit3
import Derived.Deep.LoopGhost
import Derived.Deep.QuietTactic
import Derived.BigQuiet
import Derived.WideLaws
import Derived.Deep.DeepCutAuto
import Derived.Deep.CutBlock
import Derived.Deep.RegionHeld3
import Derived.Laws.Rows
import Derived.Lib.AppendStr
import Derived.ArgAppend
import Derived.Laws.IdiomCopy
import Derived.OrdersHeld
import Derived.Laws.BitsLemmas
import Derived.RowKit
import Derived.Test.YthcmelchgnekpaaWWords
import Derived.Test.YthcmelchgnekpaaWLast
import Derived.Test.YthcmelchgnekpaaWTab
import Derived.Test.YthcmelchgnekpaaWFour
import Derived.Test.YthcmelchgnekpaaWQPut
import Derived.Test.YthcmelchgnekpaaWApart
import Derived.Test.YthcmelchgnekpaaWArr
import Derived.Test.YthcmelchgnekpaaWZeros
import Derived.Test.YthcmelchgnekpaaWFoot
import Derived.Test.YthcmelchgnekpaaWKept
import Derived.Test.YthcmelchgnekpaaWShare
import Derived.Test.YthcmelchgnekpaaWN
import Derived.Test.YthcmelchgnekpaaWFootNe
import Derived.Test.YthcmelchgnekpaaWAt
import Derived.Test.YthcmelchgnekpaaWEqStruct
import Derived.Test.YthcmelchgnekpaaWRepsOne
import Derived.Test.YthcmelchgnekpaaWInv
import Derived.Test.YthcmelchgnekpaaWInvWords
import Derived.Test.YthcmelchgnekpaaWGuard
import Derived.Test.YthcmelchgnekpaaWNEv
import Derived.Test.YthcmelchgnekpaaWMore
import Derived.Test.YthcmelchgnekpaaXDelF
import Derived.Test.YthcmelchgnekpaaXRows
import Derived.Lib.AppendZeros
import Derived.Lib.Overlaps
import Derived.Laws.Externs
import Derived.Deep.RegionLaw

/- slices.Insert of one row into a table of the call's own, walked. -/
namespace Go.Proofs.Ythcmelchgnekpaa.XIns
open Go.RowKit Go.Proofs.YthcmelchgnekpaaW.PrintWords Go.Proofs.YthcmelchgnekpaaW.PrintLast Go.Proofs.YthcmelchgnekpaaW.PrintMore Go.Proofs.Ythcmelchgnekpaa.PA Go.Proofs.Ythcmelchgnekpaa.XDel Go.Proofs.Ythcmelchgnekpaa.XDelF
set_option linter.unusedVariables false
set_option linter.unusedSimpArgs false
/-- append(s, make([]T, n)...) where there is no room. -/
theorem run_append_zeros_grow {P : Program} (w : World) (t tn ty e : TypeId) (i : TypeInfo) (z : Value) (k kn : IntKind) (ht : P.underlying t = some (.slice e)) (htn : P.underlying tn = some (.int kn)) (hi : P.info? e = some i) (hz : i.zero = some z)
    (b : Addr) (sLen sCap : Nat) (olds : List Value) (hlo : olds.length = sLen * i.size) (holds : ∀ j v, olds[j]? = some v → w.cell? (b.add j) = some v)
    (n : Nat) (h0 : 0 < n) (hs : 0 < i.size) (hg : sCap < sLen + n) (h63 : ((sLen + n : Nat) : Int) ≤ 9223372036854775807) (h48 : n * i.bytes ≤ 281474976710656) (hfit : Builtin.nextslicecap (sLen + n) sCap * i.bytes ≤ 281474976710656) :
    (Builtin.append_ #[t, tn] ty #[.slice (some b) sLen sCap, .int k n]).run P w =
      .ok (.slice (some ⟨w.heap.size, 0, none⟩) (sLen + n) (grownCap w (sLen + n) sCap e))
        (w.drew.alloc (.cells (olds.toArray ++ Builtin.zeroCells z.cells n ++ Builtin.zeroCells z.cells (grownCap w (sLen + n) sCap e - (sLen + n))) e)) := by
  have hn : ¬ (sLen + n ≤ sCap) := by omega
  have hn0 : n ≠ 0 := by omega
  have hw : IntKind.i64.wrap (n : Int) = n := by rw [IntKind.wrap_i64]; omega
  have h63' : ¬ (9223372036854775807 < ((sLen : Int) + (n : Int))) := by omega
  have h48' : ¬ (281474976710656 < Builtin.nextslicecap (sLen + n) sCap * i.bytes) := by omega
  have h48i : ¬ (281474976710656 < (n : Int) * (i.bytes : Int)) := by
    rw [← Int.natCast_mul]
    omega
  have hneg : ¬ ((n : Int) < 0) := by omega
  have hns : ¬ (n * i.size = 0) := Nat.mul_ne_zero hn0 (by omega)
  have hfo := run_firstCells_some (P := P) w.drew i.size sLen b sLen sCap olds hlo (by simpa using holds)
  simp [Builtin.append_, run_underlying ht, run_underlying htn, sizeOf, typeInfo, zeroValue, hi, hz, asInt, asIntOf, hw, hn, hneg, hns, h63', h48', h48i, Question.forced, hfo, newRow, grownCap]
abbrev TS : TypeId := 25
abbrev TE : TypeId := 52
def enc (x : Sn) : List Value := [.string x.f0, .int .i64 x.f1.f0, .int .i64 x.f1.f1, .int .i64 x.f1.f2, .string x.f1.f3]
def encs (l : List Sn) : List Value := l.flatMap enc
theorem encs_len (l : List Sn) : (encs l).length = l.length * 5 := by
  induction l with
  | nil => rfl
  | cons x l ih => simp only [encs, List.flatMap_cons, List.length_append, List.length_cons] at ih ⊢; rw [ih]; simp [enc]; omega
theorem encs_app (l m : List Sn) : encs (l ++ m) = encs l ++ encs m := by simp [encs]
theorem encs_take (l : List Sn) (i : Nat) : (encs l).take (i * 5) = encs (l.take i) := by
  by_cases h : i ≤ l.length
  · conv => lhs; rw [← List.take_append_drop i l, encs_app]
    rw [List.take_append_of_le_length (by rw [encs_len, List.length_take]; omega), List.take_of_length_le (by rw [encs_len, List.length_take]; omega)]
  · rw [List.take_of_length_le (by rw [encs_len]; omega), List.take_of_length_le (by omega)]
theorem encs_drop (l : List Sn) (i : Nat) : (encs l).drop (i * 5) = encs (l.drop i) := by
  by_cases h : i ≤ l.length
  · conv => lhs; rw [← List.take_append_drop i l, encs_app]
    rw [List.drop_append_of_le_length (by rw [encs_len, List.length_take]; omega), List.drop_of_length_le (by rw [encs_len, List.length_take]; omega), List.nil_append]
  · rw [List.drop_of_length_le (by rw [encs_len]; omega), List.drop_of_length_le (by omega)]; rfl
theorem encs_one (l : List Sn) : ∀ v ∈ encs l, v.oneCell' = true := by
  intro v hv
  simp only [encs, List.mem_flatMap, enc] at hv
  obtain ⟨x, _, hv⟩ := hv
  simp only [List.mem_cons, List.not_mem_nil, or_false] at hv
  rcases hv with rfl | rfl | rfl | rfl | rfl <;> rfl
theorem reps_encs (w : World) (base : Nat) (okp : Nat → Prop) (l : List Sn) : Reps (kS.M w base okp) 5 l (encs l) := by
  induction l with
  | nil => exact Reps.none _ _
  | cons x l ih => exact Reps.c5 (k52_mkM _ _ _ x) ih
theorem encs_reps {w : World} {base : Nat} {okp : Nat → Prop} : ∀ {l : List Sn} {inner : List Value}, Reps (kS.M w base okp) 5 l inner → inner = encs l
  | [], inner, h => List.eq_nil_of_length_eq_zero (by have := h.1; simpa using this)
  | x :: l, inner, h => by
    have h0 := h.2 0 x rfl
    simp only [Nat.zero_mul, List.drop_zero] at h0
    have h1 := k52_openM h0
    have hl : inner.length = l.length * 5 + 5 := by have := h.1; simp only [List.length_cons] at this; omega
    have ih := encs_reps (w := w) (base := base) (okp := okp) (l := l) (inner := inner.drop 5) ⟨by rw [List.length_drop]; omega, fun j p hp => by
      have := h.2 (j + 1) p (by simpa using hp)
      rw [List.drop_drop]
      rw [show 5 + j * 5 = (j + 1) * 5 by omega]
      exact this⟩
    rw [← List.take_append_drop 5 inner, h1, ih]
    rfl
/-- A table of the call's own, by its block. -/
def Tab (w : World) (g c : Nat) (l : List Sn) : Prop := ∃ cur : Array Value, w.heap[g]? = some (.cells cur TE (0, 0)) ∧ cur.size = c * 5 ∧ l.length ≤ c ∧ c ≤ maxLen ∧ cur.toList.take (l.length * 5) = encs l
theorem Tab.R {w : World} {base g c : Nat} {l : List Sn} (h : Tab w g c l) (hg : base ≤ g) : kS.R TE w base (fun _ => True) (.slice (some ⟨g, 0, none⟩) l.length c) l := by
  obtain ⟨cur, h1, h2, h3, h4, h5⟩ := h
  exact ⟨fun _ _ => trivial, encs l, ⟨encs_len l, .inr ⟨g, c, cur, rfl, hg, h1, h3, h4, h2, h5⟩⟩, reps_encs _ _ _ l⟩
theorem Tab.of_R {w : World} {base : Nat} {v : Value} {l : List Sn} (h : kS.R TE w base (fun _ => True) v l) : (v = .slice none 0 0 ∧ l = []) ∨ ∃ g c, v = .slice (some ⟨g, 0, none⟩) l.length c ∧ base ≤ g ∧ Tab w g c l := by
  obtain ⟨_, inner, ⟨hl, hv⟩, hr⟩ := h
  have he := encs_reps hr
  subst he
  rcases hv with ⟨hv, hn⟩ | ⟨g, c, cur, hv, hg, h1, h3, h4, h2, h5⟩
  · exact .inl ⟨hv, List.eq_nil_of_length_eq_zero hn⟩
  · exact .inr ⟨g, c, hv, hg, cur, h1, h2, h3, h4, h5⟩
theorem Tab.cell {w : World} {g c : Nat} {l : List Sn} (h : Tab w g c l) (j : Nat) (v : Value) (hj : (encs l)[j]? = some v) : w.cell? ⟨g, j, none⟩ = some v := by
  obtain ⟨cur, h1, h2, h3, h4, h5⟩ := h
  have hlt : j < (encs l).length := by
    rcases Nat.lt_or_ge j (encs l).length with q | q
    · exact q
    · rw [List.getElem?_eq_none q] at hj; cases hj
  rw [encs_len] at hlt
  rw [blk_cell h1 j, ← hj, ← h5, List.getElem?_take_of_lt hlt, Array.getElem?_toList]
theorem Tab.some {w : World} {g c : Nat} {l : List Sn} (h : Tab w g c l) (j : Nat) (hj : j < c * 5) : (w.cell? ⟨g, j, none⟩).isSome = true := by
  obtain ⟨cur, h1, h2, h3, h4, h5⟩ := h
  rw [blk_cell h1 j, Array.getElem?_eq_getElem (by omega)]
  rfl
theorem Tab.free {w : World} {g c : Nat} {l : List Sn} (h : Tab w g c l) (j : Nat) : w.frozen? ⟨g, j, none⟩ = false := by
  obtain ⟨cur, h1, _⟩ := h
  exact blk_frozen h1 j
/-- Cells written over a table's block. -/
theorem Tab.put {w : World} {g c : Nat} {l : List Sn} (h : Tab w g c l) (m : List Sn) (o : Nat) (seg : List Value) (hfit : o + seg.length ≤ c * 5) (hm : m.length ≤ c)
    (hall : ∀ cur : List Value, cur.take (l.length * 5) = encs l → (cur.take o ++ seg ++ cur.drop (o + seg.length)).take (m.length * 5) = encs m) : Tab (w.setCells g o seg) g c m := by
  obtain ⟨cur, h1, h2, h3, h4, h5⟩ := h
  obtain ⟨cur', k1, k2, k3⟩ := setCells_row seg o w cur h1 (by omega)
  exact ⟨cur', k1, by rw [k2, h2], hm, h4, by rw [k3]; exact hall _ h5⟩
end Go.Proofs.Ythcmelchgnekpaa.XIns
/- slices.Insert of one row into a table of the call's own, walked. -/
namespace Go.Proofs.Ythcmelchgnekpaa.XIns
open Go.RowKit Go.Proofs.YthcmelchgnekpaaW.PrintWords Go.Proofs.YthcmelchgnekpaaW.PrintLast Go.Proofs.YthcmelchgnekpaaW.PrintMore Go.Proofs.Ythcmelchgnekpaa.PA Go.Proofs.Ythcmelchgnekpaa.XDel Go.Proofs.Ythcmelchgnekpaa.XDelF
set_option linter.unusedVariables false
set_option linter.unusedSimpArgs false
section
variable {P : Program}
/-- copy of rows of several cells: all is read before anything is written. -/
theorem run_copy_rows (w : World) (dT sT ty elem : TypeId) (sz : Nat) (b o dLen dCap : Nat) (a : Addr) (sLen sCap k : Nat) (cs : List Value)
    (hu : P.underlying dT = some (.slice elem)) (hs : (P.info? elem).map (·.size) = some sz) (hk : Nat.min sLen dLen = k) (hn : cs.length = k * sz)
    (hsrc : ∀ j v, cs[j]? = some v → w.cell? (a.add j) = some v) (hc : ∀ j, j < cs.length → (w.cell? ⟨b, o + j, none⟩).isSome = true) (hf : ∀ j, j < cs.length → w.frozen? ⟨b, o + j, none⟩ = false) (h1 : ∀ v ∈ cs, v.oneCell' = true) :
    (Builtin.copy_ #[dT, sT] ty #[.slice (some ⟨b, o, none⟩) dLen dCap, .slice (some a) sLen sCap]).run P w = .ok (goInt k) (w.setCells b o cs) := by
  have hl := run_loadCells_list (P := P) w a cs hsrc
  have hst := run_storeCells_cells (P := P) b o cs 0 w (by simpa using hc) (by simpa using hf) h1
  cases hq : P.info? elem with
  | none => simp [hq] at hs
  | some i =>
    have hi : i.size = sz := by simpa [hq] using hs
    rw [hn] at hl
    simp [Builtin.copy_, run_underlying hu, Builtin.lenOf, Builtin.firstCells, sizeOf, typeInfo, hq, hi, hk, hl, hst]
theorem wpList_copy_run {ops : Array Oper} {rest : List Oper} {o : Oper} {a : Act} {w : World} {Q : Exit → Act → World → Prop} (hgd : o.guard = none) (d s : Operand) (t t' : TypeId)
    (ho : o.op = .call { callee := .builtin .copy, args := #[d, s], argTypes := #[t, t'] }) (v u : Value) (hd : a.eval d = v) (hs : a.eval s = u) {v' : Value} {w' : World}
    (hr : (Builtin.copy_ #[t, t'] o.type #[v, u]).run P w = .ok v' w') (h : wpList P ops Q rest (a.put o.dst v') w') : wpList P ops Q (o :: rest) a w :=
  wpList_plain hgd fun _ hK => by
    have hk := hK _ _ h
    unfold Oper.wp execOp
    simp only [ho, resolve, invoke, builtin, Sem.run_bind, Sem.run_pure, Result.andThen_ok, List.map_toArray, List.map_cons, List.map_nil, hd, hs, hr]
    exact hk
theorem step_copy_run {ops : Array Oper} {o : Oper} {a : Act} {w : World} {K : Act → World → Prop} {Q : Exit → Act → World → Prop} {E : Prop}
    (hg : o.guard = none) (d x : Operand) (dT sT : TypeId) (hop : o.op = Op.call { callee := Callee.builtin Builtin.copy, args := #[d, x], argTypes := #[dT, sT] })
    (v u : Value) (hd : a.eval d = v) (hx : a.eval x = u) {v' : Value} {w' : World} (hr : (Builtin.copy_ #[dT, sT] o.type #[v, u]).run P w = .ok v' w') (hK : K (a.put o.dst v') w') :
    if Region.wanted o (yielded ops a.tmps) = true then Oper.wp P o a w K Q else E := by
  have hw : Region.wanted o (yielded ops a.tmps) = true := by simp [Region.wanted, hg]
  rw [if_pos hw]
  unfold Oper.wp
  simp [execOp, hop, resolve, invoke, builtin, hd, hx, hr, Result.andThen]
  exact hK
end
theorem infoE : (Try.prog.info? 52).map (fun i => (i.zero, i.size, i.bytes)) = some (some (.agg zc), 5, 56) := by kernel_rfl
theorem sizeE : (Try.prog.info? 52).map (·.size) = some 5 := by kernel_rfl
theorem cut_l (A : Option Addr) (n c i : Nat) (hi : i ≤ n) : ∃ V, ∀ W : World, (Instr.slice 25 (.slice A n c) (some (.int .i64 (i : Int))) none none).run Try.prog W = .ok V W := by
  obtain ⟨x, hx, hs⟩ : ∃ x, Try.prog.info? 52 = some x ∧ x.size = 5 := ⟨_, rfl, rfl⟩
  exact ⟨_, cut_from (P := Try.prog) 25 52 .i64 Try.underlying25 hx 5 hs A n c (i : Int) (by omega) (by omega)⟩
theorem cut_up (g n c m : Nat) (hm : m ≤ c) (W : World) : (Instr.slice 25 (.slice (some ⟨g, 0, none⟩) n c) none (some (.int .i64 (m : Int))) none).run Try.prog W = .ok (.slice (some ⟨g, 0, none⟩) m c) W := by
  obtain ⟨x, hx⟩ : ∃ x, Try.prog.info? 52 = some x := ⟨_, rfl⟩
  have hel : Try.prog.elem 25 = 52 := by simp [Program.elem, Try.underlying25]
  have hu : Try.prog.underlying 25 = some (.slice (Try.prog.elem 25)) := by rw [hel]; exact Try.underlying25
  rw [run_slice_h W 25 (some ⟨g, 0, none⟩) n c hu .i64 (m : Int) (by omega) (by omega), hel]
  simp [sizeOf, typeInfo, hx, sliced, Result.andThen, Addr.add]
/-- A table with a row put in. -/
def insL (l : List Sn) (i : Nat) (x : Sn) : List Sn := l.take i ++ x :: l.drop i
theorem insL_len (l : List Sn) (i : Nat) (x : Sn) : (insL l i x).length = l.length + 1 := by simp only [insL, List.length_append, List.length_cons, List.length_take, List.length_drop]; omega
theorem enc_insL (l : List Sn) (i : Nat) (x : Sn) : encs (insL l i x) = encs (l.take i) ++ (enc x ++ encs (l.drop i)) := by
  rw [insL, encs_app]; rfl
set_option maxHeartbeats 4000000 in
set_option maxRecDepth 100000 in
/-- At the end: the append. -/
theorem insert_end {w : World} {base : Nat} {v : Value} {l : List Sn} (h : kS.R TE w base (fun _ => True) v l) (hb : base ≤ w.heap.size) (hl : l.length < 1000000) (x : Sn) (vb : Nat) (hv : w.heap[vb]? = some (.cells (enc x).toArray TE (0, 0))) :
    Calls Try.prog 46 #[v, .int .i64 l.length, .slice (some ⟨vb, 0, none⟩) 1 1] w fun e w' => ∃ v', e = .returned v' ∧ kS.R TE w' base (fun _ => True) v' (insL l l.length x) ∧ Below base w w' := by
  obtain ⟨A, c, rfl⟩ := Kd.R_slice h
  obtain ⟨V, hV⟩ := cut_l A l.length c l.length (Nat.le_refl _)
  have HR := Aside0.mk h
  have b0 : (0 : Int) ≤ (l.length : Int) := by omega
  have b1 : (l.length : Int) ≤ 1000000 := by omega
  have hrow : ReadsRow (kS.M w base (fun _ => False)) 5 w (some ⟨vb, 0, none⟩) 1 [x] := by
    refine ⟨rfl, by omega, fun _ => ⟨⟨vb, 0, none⟩, rfl, fun j p hj => ?_⟩⟩
    cases j with
    | succ j => simp at hj
    | zero =>
      obtain rfl : x = p := by simpa using hj
      refine ⟨enc x, rfl, k52_mkM _ _ _ x, fun i u hi => ?_⟩
      rw [Addr.add_lit, Nat.zero_mul, Nat.zero_add, Nat.zero_add, blk_cell hv i]
      simpa using hi
  have HROW := Aside0.mk hrow
  clear h hrow hv
  go_enter Try.func46, Try.ntmps46
  go_wp2_with (at_builtin; refine Kd.R_append_rows kS (w0 := w) base rfl _ _ 25 52 (.agg zc) 56 rfl Try.underlying25 infoE rfl (by decide) (by omega) _ l [x] _ _ _ (fun _ => True) (fun _ => False) rfl rfl HR.out HROW.out (fun _ _ h => h) (fun _ h => h.elim) (fun _ _ => trivial) (Below.refl _ _) hb (by omega) ?_; intro v1 w1 ho hb1 hg hat)
  go_ret
  refine ⟨v1, rfl, ?_, hb1⟩
  rw [insL, List.take_length, List.drop_length]
  exact ho
theorem cut_tl (g n cap p : Nat) (hp : p < cap) (hn : p ≤ n) (W : World) : (Instr.slice 25 (.slice (some ⟨g, 0, none⟩) n cap) (some (.int .i64 (p : Int))) none none).run Try.prog W = .ok (.slice (some ⟨g, p * 5, none⟩) (n - p) (cap - p)) W := by
  obtain ⟨i, hi, hs⟩ : ∃ i, Try.prog.info? 52 = some i ∧ i.size = 5 := ⟨_, rfl, rfl⟩
  have h := cut_from (P := Try.prog) 25 52 .i64 Try.underlying25 hi 5 hs (some ⟨g, 0, none⟩) n cap (p : Int) (by omega) (by omega) W
  rw [h, Int.toNat_natCast, if_neg (by omega)]
  simp [Addr.add]
  intro h0
  omega
set_option maxHeartbeats 8000000 in
set_option maxRecDepth 100000 in
/-- In place: there is room. -/
theorem insert_room {w : World} {g c : Nat} {l : List Sn} (i : Nat) (hi : i < l.length) (h : Tab w g c l) (hroom : l.length + 1 ≤ c) (hl : l.length < 1000000) (x : Sn) (vb : Nat) (hv : w.heap[vb]? = some (.cells (enc x).toArray TE (0, 0))) (hne : vb ≠ g) :
    Calls Try.prog 46 #[.slice (some ⟨g, 0, none⟩) l.length c, .int .i64 i, .slice (some ⟨vb, 0, none⟩) 1 1] w fun e w' => e = .returned (.slice (some ⟨g, 0, none⟩) (l.length + 1) c) ∧ w' = (w.drew.setCells g ((i + 1) * 5) (encs (l.drop i))).setCells g (i * 5) (enc x) := by
  have hc2 : c ≤ 9223372036854775807 := by obtain ⟨_, _, _, _, q, _⟩ := h; exact q
  have n1 : (i : Int) < (l.length : Int) := by omega
  have n2 : (l.length : Int) < 1000000 := by omega
  have n3 : (l.length : Int) + 1 ≤ (c : Int) := by omega
  have n4 : (c : Int) ≤ 9223372036854775807 := by omega
  have n0 : (0 : Int) ≤ (i : Int) := by omega
  have q1 : ((i : Int) == (l.length : Int)) = false := beq_eq_false_iff_ne.2 (by omega)
  have q2 : ¬ ((c : Int) < (l.length : Int) + 1) := by omega
  have hov : ∀ lb cb, (callFunc 55 #[.slice (some ⟨vb, 0, none⟩) 1 1, .slice (some ⟨g, (i + 1) * 5, none⟩) lb cb]).run Try.prog w = .ok (.value (.bool false)) w := by
    intro lb cb
    have hsh : ∀ (p t : Nat) (cs : Array Value), w.heap[p]? = some (.cells cs t (0, 0)) → w.shape? p = some (t, cs.size) := fun p t cs hp => by simp [World.shape?, hp]
    obtain ⟨cur, h1, h2, _⟩ := h
    rw [run_callFunc_extern Try.func55 (by kernel_rfl) (by kernel_rfl) (by kernel_rfl) (e := Extern.SlicesOverlaps.overlaps #[25, 25] #[4]) (by kernel_rfl),
      Lib.run_overlaps_apart w 25 4 52 Try.underlying25 5 (fun w => by kernel_rfl) ⟨vb, 0, none⟩ ⟨g, (i + 1) * 5, none⟩ 1 1 lb cb hne _ _ _ _ (hsh _ _ _ hv) (hsh _ _ _ h1) (by omega) (blk_frozen hv 0) (blk_frozen hv _)]
    rfl
  obtain ⟨V, hV⟩ := cut_l (some ⟨g, 0, none⟩) l.length c i (by omega)
  have s2 : ∀ W : World, (Instr.slice 25 (.slice (some ⟨g, 0, none⟩) l.length c) none (some (.int .i64 ((l.length : Int) + 1))) none).run Try.prog W = .ok (.slice (some ⟨g, 0, none⟩) (l.length + 1) c) W := cut_up g l.length c (l.length + 1) hroom
  have s3 : ∀ W : World, (Instr.slice 25 (.slice (some ⟨g, 0, none⟩) (l.length + 1) c) (some (.int .i64 ((i : Int) + 1))) none none).run Try.prog W = .ok (.slice (some ⟨g, (i + 1) * 5, none⟩) (l.length + 1 - (i + 1)) (c - (i + 1))) W := cut_tl g (l.length + 1) c (i + 1) (by omega) (by omega)
  have s4 : ∀ W : World, (Instr.slice 25 (.slice (some ⟨g, 0, none⟩) (l.length + 1) c) (some (.int .i64 (i : Int))) none none).run Try.prog W = .ok (.slice (some ⟨g, i * 5, none⟩) (l.length + 1 - i) (c - i)) W := cut_tl g (l.length + 1) c i (by omega) (by omega)
  have hdl : (encs (l.drop i)).length = (l.length - i) * 5 := by rw [encs_len, List.length_drop]
  have hm1 : Nat.min (l.length + 1 - i) (l.length + 1 - (i + 1)) = l.length - i := by simp only [Nat.min_def]; split <;> omega
  have hm2 : Nat.min 1 (l.length + 1 - i) = 1 := by simp only [Nat.min_def]; split <;> omega
  have hcp1 : ∀ ty, (Builtin.copy_ #[25, 25] ty #[.slice (some ⟨g, (i + 1) * 5, none⟩) (l.length + 1 - (i + 1)) (c - (i + 1)), .slice (some ⟨g, i * 5, none⟩) (l.length + 1 - i) (c - i)]).run Try.prog w.drew = .ok (goInt ((l.length - i : Nat) : Int)) (w.drew.setCells g ((i + 1) * 5) (encs (l.drop i))) := fun ty =>
    run_copy_rows w.drew _ _ ty 52 5 g ((i + 1) * 5) _ _ ⟨g, i * 5, none⟩ _ _ (l.length - i) _ Try.underlying25 sizeE hm1 hdl
      (fun j v hj => by
        rw [Addr.add_lit]
        refine h.cell _ v ?_
        rw [← encs_drop, List.getElem?_drop] at hj
        exact hj)
      (fun j hj => h.some _ (by omega)) (fun j hj => h.free _) (encs_one _)
  generalize hW1 : w.drew.setCells g ((i + 1) * 5) (encs (l.drop i)) = W1 at hcp1
  have hW1h : ∃ cur : Array Value, W1.heap[g]? = some (.cells cur TE (0, 0)) ∧ cur.size = c * 5 := by
    obtain ⟨cur, h1, h2, _⟩ := h
    obtain ⟨cur', k1, k2, _⟩ := setCells_row (encs (l.drop i)) ((i + 1) * 5) w.drew cur h1 (by omega)
    rw [← hW1]
    exact ⟨cur', k1, by omega⟩
  have hvW : W1.heap[vb]? = some (.cells (enc x).toArray TE (0, 0)) := by rw [← hW1]; exact (setCells_far _ _ _ hne).trans hv
  have hcp2 : ∀ (W : World), W.heap = W1.heap → ∀ ty, (Builtin.copy_ #[25, 25] ty #[.slice (some ⟨g, i * 5, none⟩) (l.length + 1 - i) (c - i), .slice (some ⟨vb, 0, none⟩) 1 1]).run Try.prog W = .ok (goInt 1) (W.setCells g (i * 5) (enc x)) := fun W hW ty => by
    obtain ⟨cur, h1, h2⟩ := hW1h
    rw [← hW] at h1 hvW
    exact run_copy_rows W _ _ ty 52 5 g (i * 5) _ _ ⟨vb, 0, none⟩ _ _ 1 _ Try.underlying25 sizeE hm2 rfl
      (fun j v hj => by rw [Addr.add_lit, Nat.zero_add, blk_cell hvW j]; simpa using hj)
      (fun j hj => by rw [blk_cell h1, Array.getElem?_eq_getElem (by have : (enc x).length = 5 := rfl; omega)]; rfl) (fun j hj => blk_frozen h1 _) (fun v hv => encs_one [x] v (by simpa [encs] using hv))
  have HW := Aside0.mk hW1
  clear hW1 hW1h hvW h hdl hv hm1 hm2
  have a1 : IntKind.i64.wrap ((i : Int) + 1) = (i : Int) + 1 := by rw [IntKind.wrap_i64]; omega
  have a2 : (0 : Int) ≤ (i : Int) + 1 := by omega
  have a3 : (i : Int) ≤ (l.length : Int) + 1 := by omega
  have a4 : (i : Int) + 1 ≤ (l.length : Int) + 1 := by omega
  have a5 : ((i : Int) + 1).toNat = i + 1 := by omega
  have a6 : ¬ (c = i + 1) := by omega
  have a7 : ¬ (c = i) := by omega
  go_enter Try.func46, Try.ntmps46
  go_wp2_with (simp only [hov])
  go_region_law (refine step_copy_run rfl _ _ 25 25 rfl _ _ (by simp [Act.eval, Act.put]) (by simp [Act.eval, Act.put]) (hcp1 _) ?_)
  go_wp2_with (at_builtin; refine wpList_copy_run rfl _ _ 25 25 rfl _ _ rfl rfl (hcp2 _ rfl _) ?_)
  go_ret
  exact ⟨rfl, rfl⟩
theorem below_cells {base : Nat} {w0 W : World} (h : Below base w0 W) {g : Nat} (hg : base ≤ g) (o : Nat) (seg : List Value) : Below base w0 (W.setCells g o seg) := by
  obtain ⟨h1, h2, h3, h4⟩ := setCells_same g seg o W
  exact ⟨h1.trans h.os, h2.trans h.tape, h3.trans h.output, by rw [h4]; exact h.size, fun k hk => (setCells_far seg o k (by omega)).trans (h.block k hk)⟩
set_option maxHeartbeats 8000000 in
set_option maxRecDepth 100000 in
/-- A new row: there is no room. -/
theorem insert_grow {w : World} {g c : Nat} {l : List Sn} (i : Nat) (hi : i < l.length) (h : Tab w g c l) (hroom : c < l.length + 1) (hl : l.length < 1000000) (x : Sn) (vb : Nat) (hv : w.heap[vb]? = some (.cells (enc x).toArray TE (0, 0))) :
    Calls Try.prog 46 #[.slice (some ⟨g, 0, none⟩) l.length c, .int .i64 i, .slice (some ⟨vb, 0, none⟩) 1 1] w fun e w' => ∃ c2 : Nat, e = .returned (.slice (some ⟨w.heap.size, 0, none⟩) (l.length + 1) c2) ∧ Tab w' w.heap.size c2 (insL l i x) ∧ Below w.heap.size w w' := by
  have hcl : c = l.length := by obtain ⟨_, _, _, q, _⟩ := h; omega
  have n1 : (i : Int) < (l.length : Int) := by omega
  have n2 : (l.length : Int) < 1000000 := by omega
  have n3 : (c : Int) < (l.length : Int) + 1 := by omega
  have n0 : (0 : Int) ≤ (i : Int) := by omega
  have q1 : ((i : Int) == (l.length : Int)) = false := beq_eq_false_iff_ne.2 (by omega)
  have hV := cut_tl g l.length c i (by omega) (by omega)
  have s2 := cut_head g l.length c i (by omega) (by omega)
  obtain ⟨i0, hi0, hz0, hz1, hz2⟩ := info_parts infoE
  have hlt : (encs (l.take i)).length = i * 5 := by rw [encs_len, List.length_take]; omega
  have hap : ∀ ty, (Builtin.append_ #[25, 3] ty #[.slice (some ⟨g, 0, none⟩) i c, .int .i64 ((l.length : Int) + 1 - (i : Int))]).run Try.prog w = .ok (.slice (some ⟨w.heap.size, 0, none⟩) (l.length + 1) (grownCap w (l.length + 1) c 52)) (w.drew.alloc (.cells ((encs (l.take i)).toArray ++ Builtin.zeroCells (Value.agg zc).cells (l.length + 1 - i) ++ Builtin.zeroCells (Value.agg zc).cells (grownCap w (l.length + 1) c 52 - (l.length + 1))) 52)) := fun ty => by
    have e := run_append_zeros_grow (P := Try.prog) w 25 3 ty 52 i0 (.agg zc) .i64 .i64 Try.underlying25 Try.underlying3 hi0 hz0 ⟨g, 0, none⟩ i c (encs (l.take i)) (by rw [hlt, hz1])
      (fun j v hj => by
        rw [Addr.add_lit, Nat.zero_add]
        refine h.cell _ v ?_
        rw [← encs_take, List.getElem?_take] at hj
        split at hj
        · exact hj
        · cases hj) (l.length + 1 - i) (by omega) (by omega) (by omega) (by omega) (by rw [hz2]; omega) (growslice_fits (by omega) (by rw [hz2]; omega))
    rw [show ((l.length + 1 - i : Nat) : Int) = (l.length : Int) + 1 - (i : Int) by omega, show i + (l.length + 1 - i) = l.length + 1 by omega] at e
    exact e
  have hc2 := grownCap_ge w (l.length + 1) c 52
  have hc3 := grownCap_le_maxLen w (l.length + 1) c 52 (by unfold maxLen; omega)
  generalize grownCap w (l.length + 1) c 52 = c2 at hap hc2 hc3
  have hzl : ∀ n, (Builtin.zeroCells (Value.agg zc).cells n).size = n * 5 := fun n => by simp [Builtin.zeroCells, Value.cells]
  generalize hcur : ((encs (l.take i)).toArray ++ Builtin.zeroCells (Value.agg zc).cells (l.length + 1 - i) ++ Builtin.zeroCells (Value.agg zc).cells (c2 - (l.length + 1))) = cur at hap
  have hcs : cur.size = c2 * 5 := by rw [← hcur]; simp only [Array.size_append, hzl, List.size_toArray, hlt]; omega
  have hct : cur.toList.take (i * 5) = encs (l.take i) := by
    rw [← hcur]
    simp only [Array.toList_append, List.append_assoc]
    rw [List.take_append_of_le_length (by omega), List.take_of_length_le (by omega)]
  have hb1 : Below w.heap.size w (w.drew.alloc (.cells cur 52)) := below_alloc (below_drew (Below.refl _ _)) _
  have hT1 : (w.drew.alloc (.cells cur 52)).heap[w.heap.size]? = some (.cells cur TE (0, 0)) := heap_alloc_new w.drew _
  have hv1 := blk_below hv hb1
  have hne : vb ≠ w.heap.size := fun e => by have := blk_lt hv; omega
  have hgw : g ≠ w.heap.size := fun e => by obtain ⟨_, q, _⟩ := h; have := blk_lt q; omega
  generalize w.drew.alloc (.cells cur 52) = W1 at hap hb1 hT1 hv1
  have s3 := cut_tl w.heap.size (l.length + 1) c2 i (by omega) (by omega)
  have hm1 : Nat.min 1 (l.length + 1 - i) = 1 := by simp only [Nat.min_def]; split <;> omega
  have hm2 : Nat.min (l.length - i) (l.length + 1 - (i + 1)) = l.length - i := by simp only [Nat.min_def]; split <;> omega
  have hcp1 : ∀ ty, (Builtin.copy_ #[25, 25] ty #[.slice (some ⟨w.heap.size, i * 5, none⟩) (l.length + 1 - i) (c2 - i), .slice (some ⟨vb, 0, none⟩) 1 1]).run Try.prog W1 = .ok (goInt 1) (W1.setCells w.heap.size (i * 5) (enc x)) := fun ty =>
    run_copy_rows W1 _ _ ty 52 5 w.heap.size (i * 5) _ _ ⟨vb, 0, none⟩ _ _ 1 _ Try.underlying25 sizeE hm1 rfl
      (fun j v hj => by rw [Addr.add_lit, Nat.zero_add, blk_cell hv1 j]; simpa using hj)
      (fun j hj => by rw [blk_cell hT1, Array.getElem?_eq_getElem (by have : (enc x).length = 5 := rfl; omega)]; rfl) (fun j hj => blk_frozen hT1 _) (fun v hv => encs_one [x] v (by simpa [encs] using hv))
  have h5 : (enc x).length = 5 := rfl
  obtain ⟨cur2, k1, k2, k3⟩ := setCells_row (enc x) (i * 5) W1 cur hT1 (by omega)
  have hb2 := below_cells hb1 (Nat.le_refl _) (i * 5) (enc x)
  have hg2 : ∀ j, (W1.setCells w.heap.size (i * 5) (enc x)).cell? ⟨g, j, none⟩ = w.cell? ⟨g, j, none⟩ := fun j => by
    obtain ⟨cg, q, _⟩ := h
    rw [blk_cell q j, blk_cell (blk_below q hb2) j]
  generalize W1.setCells w.heap.size (i * 5) (enc x) = W2 at hcp1 k1 hb2 hg2
  have hdl : (encs (l.drop i)).length = (l.length - i) * 5 := by rw [encs_len, List.length_drop]
  have hcp2 : ∀ W : World, W.heap = W2.heap → ∀ ty, (Builtin.copy_ #[25, 25] ty #[.slice (some ⟨w.heap.size, (i + 1) * 5, none⟩) (l.length + 1 - (i + 1)) (c2 - (i + 1)), .slice (some ⟨g, i * 5, none⟩) (l.length - i) (c - i)]).run Try.prog W = .ok (goInt ((l.length - i : Nat) : Int)) (W.setCells w.heap.size ((i + 1) * 5) (encs (l.drop i))) := fun W hW ty => by
    have k1' := k1
    rw [← hW] at k1'
    have hg3 : ∀ j, W.cell? ⟨g, j, none⟩ = W2.cell? ⟨g, j, none⟩ := fun j => by simp only [World.cell?, hW]
    exact run_copy_rows W _ _ ty 52 5 w.heap.size ((i + 1) * 5) _ _ ⟨g, i * 5, none⟩ _ _ (l.length - i) _ Try.underlying25 sizeE hm2 hdl
      (fun j v hj => by
        rw [Addr.add_lit, hg3, hg2]
        refine h.cell _ v ?_
        rw [← encs_drop, List.getElem?_drop] at hj
        exact hj)
      (fun j hj => by rw [blk_cell k1', Array.getElem?_eq_getElem (by omega)]; rfl) (fun j hj => blk_frozen k1' _) (encs_one _)
  have hTab : ∀ W : World, W.heap = W2.heap → Tab (W.setCells w.heap.size ((i + 1) * 5) (encs (l.drop i))) w.heap.size c2 (insL l i x) := fun W hW => by
    rw [← hW] at k1
    obtain ⟨cur3, j1, j2, j3⟩ := setCells_row (encs (l.drop i)) ((i + 1) * 5) W cur2 k1 (by omega)
    refine ⟨cur3, j1, by omega, by rw [insL_len]; omega, hc3, ?_⟩
    rw [j3, k3, insL_len, enc_insL]
    have e1 : (List.take (i * 5) cur.toList ++ enc x ++ List.drop (i * 5 + (enc x).length) cur.toList).take ((i + 1) * 5) = encs (l.take i) ++ enc x := by
      rw [hct, List.take_append_of_le_length (by rw [List.length_append, hlt, h5]; omega), List.take_of_length_le (by rw [List.length_append, hlt, h5]; omega)]
    rw [e1, List.take_append_of_le_length (by simp only [List.length_append, hlt, h5, hdl]; omega), List.take_of_length_le (by simp only [List.length_append, hlt, h5, hdl]; omega), List.append_assoc]
  have HT := Aside0.mk hTab
  have HB := Aside0.mk (fun (W : World) (hW : Below w.heap.size w W) => below_cells hW (Nat.le_refl _) ((i + 1) * 5) (encs (l.drop i)))
  have HB2 := Aside0.mk hb2
  have a1 : IntKind.i64.wrap ((i : Int) + 1) = (i : Int) + 1 := by rw [IntKind.wrap_i64]; omega
  have a2 : (0 : Int) ≤ (i : Int) + 1 := by omega
  have a4 : (i : Int) + 1 ≤ (l.length : Int) + 1 := by omega
  have a5 : ((i : Int) + 1).toNat = i + 1 := by omega
  have a6 : ¬ (c2 = i + 1) := by omega
  have a7 : ¬ (c = i) := by omega
  have a8 : (i : Int) ≤ (l.length : Int) := by omega
  clear hTab hb2 hg2 k1 k2 k3 hcs hct hb1 hT1 hv1 hne hgw h hv hi0 hz0 hz1 hz2 hlt hcur hdl h5 hm1 hm2 hzl
  clear hcl
  go_enter Try.func46, Try.ntmps46
  go_wp2_with (first | (at_builtin; refine Lib.wpList_append_run _ rfl _ _ 25 3 rfl _ _ rfl rfl _ _ (hap _) ?_) | (at_builtin; refine wpList_copy_run rfl _ _ 25 25 rfl _ _ rfl rfl (hcp1 _) ?_))
  go_region_law (refine step_copy_run rfl _ _ 25 25 rfl _ _ (by simp [Act.eval, Act.put]) (by simp [Act.eval, Act.put]) (hcp2 W2.drew rfl _) ?_)
  go_wp2
  go_ret
  exact ⟨c2, rfl, HT.out W2.drew rfl, HB.out _ (below_drew1 HB2.out)⟩
/-- Any way. -/
theorem insert_calls {w : World} {base : Nat} {v : Value} {l : List Sn} (h : kS.R TE w base (fun _ => True) v l) (hb : base ≤ w.heap.size) (hl : l.length < 1000000) (i : Nat) (hi : i ≤ l.length) (x : Sn) (vb : Nat) (hv : w.heap[vb]? = some (.cells (enc x).toArray TE (0, 0))) (hne : some vb ≠ v.ownBlock) :
    Calls Try.prog 46 #[v, .int .i64 i, .slice (some ⟨vb, 0, none⟩) 1 1] w fun e w' => ∃ v', e = .returned v' ∧ kS.R TE w' base (fun _ => True) v' (insL l i x) ∧ Below base w w' := by
  rcases Nat.lt_or_ge i l.length with hlt | hge
  · rcases Tab.of_R h with ⟨_, hn⟩ | ⟨g, c, rfl, hg, hT⟩
    · subst hn; simp at hlt
    · by_cases hroom : l.length + 1 ≤ c
      · have hvg : vb ≠ g := fun e => hne (by rw [e]; rfl)
        have h5 : (enc x).length = 5 := rfl
        have hdl : (encs (l.drop i)).length = (l.length - i) * 5 := by rw [encs_len, List.length_drop]
        have hlt' : (encs (l.take i)).length = i * 5 := by rw [encs_len, List.length_take]; omega
        refine (insert_room i hlt hT hroom hl x vb hv hvg).mono ?_
        rintro e w' ⟨rfl, rfl⟩
        have hB := below_cells (below_cells (below_drew1 (Below.refl base w)) hg ((i + 1) * 5) (encs (l.drop i))) hg (i * 5) (enc x)
        have hT2 : Tab ((w.drew.setCells g ((i + 1) * 5) (encs (l.drop i))).setCells g (i * 5) (enc x)) g c (insL l i x) := by
          obtain ⟨cur, h1, h2, h3, h4, h5'⟩ := hT
          obtain ⟨cur2, k1, k2, k3⟩ := setCells_row (encs (l.drop i)) ((i + 1) * 5) w.drew cur h1 (by omega)
          obtain ⟨cur3, j1, j2, j3⟩ := setCells_row (enc x) (i * 5) _ cur2 k1 (by omega)
          refine ⟨cur3, j1, by omega, by rw [insL_len]; omega, h4, ?_⟩
          have e0 : cur.toList.take (i * 5) = encs (l.take i) := by rw [← encs_take, ← h5', List.take_take, Nat.min_eq_left (by omega)]
          have e1 : cur2.toList.take (i * 5) = encs (l.take i) := by
            rw [k3, List.append_assoc, List.take_append_of_le_length (by rw [List.length_take, Array.length_toList]; omega), List.take_take, Nat.min_eq_left (by omega), e0]
          have e2 : cur2.toList.drop (i * 5 + (enc x).length) = encs (l.drop i) ++ cur.toList.drop ((i + 1) * 5 + (encs (l.drop i)).length) := by
            have e3 : (List.take ((i + 1) * 5) cur.toList).length = i * 5 + (enc x).length := by rw [List.length_take, Array.length_toList, h5, h2]; omega
            rw [k3, List.append_assoc, List.drop_append_of_le_length (by omega), List.drop_of_length_le (by omega), List.nil_append]
          rw [j3, e1, e2, insL_len, enc_insL, ← List.append_assoc, List.take_append_of_le_length (by simp only [List.length_append, hlt', h5, hdl]; omega), List.take_of_length_le (by simp only [List.length_append, hlt', h5, hdl]; omega), List.append_assoc]
        have hR := hT2.R hg
        rw [insL_len] at hR
        exact ⟨_, rfl, hR, hB⟩
      · refine (insert_grow i hlt hT (by omega) hl x vb hv).mono ?_
        rintro e w' ⟨c2, rfl, hT2, hB⟩
        have hR := hT2.R hb
        rw [insL_len] at hR
        exact ⟨_, rfl, hR, hB.mono hb⟩
  · obtain rfl : i = l.length := by omega
    exact insert_end h hb hl x vb hv
end Go.Proofs.Ythcmelchgnekpaa.XIns
