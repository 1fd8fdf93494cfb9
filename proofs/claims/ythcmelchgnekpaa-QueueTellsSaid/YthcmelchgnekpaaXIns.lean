/- slices.Insert of one row into a table of the call's own, walked. -/
import Derived.Test.YthcmelchgnekpaaProg
import Derived.Below
import Derived.Deep.Draws
import Derived.Deep.AppendLies
import Derived.Maps.AppendAt
import Derived.OwnWalk
import Derived.Laws.BytesArg
import Derived.Laws.MakeOwn
import Derived.Laws.OwnMore
import Derived.Deep.OwnRows
import Derived.Tactics
import Derived.Lib.ConvBytes
import Derived.Laws.Slices
import Derived.WalkKit
import Derived.KernelRfl
import Derived.RowKit3
import Derived.Deep.LoopGhost
import Derived.Deep.QuietTactic
import Derived.BigQuiet
import Derived.WideLaws
import Derived.Deep.DeepCutAuto
import Derived.Deep.CutBlock
import Derived.Deep.RegionHeld3
import Derived.Laws.Rows
import Derived.Lib.AppendStr
import Derived.ArgAppend
import Derived.Laws.IdiomCopy
import Derived.OrdersHeld
import Derived.Laws.BitsLemmas
import Derived.RowKit
import Derived.Test.YthcmelchgnekpaaWWords
import Derived.Test.YthcmelchgnekpaaWLast
import Derived.Test.YthcmelchgnekpaaWTab
import Derived.Test.YthcmelchgnekpaaWFour
import Derived.Test.YthcmelchgnekpaaWQPut
import Derived.Test.YthcmelchgnekpaaWApart
import Derived.Test.YthcmelchgnekpaaWArr
import Derived.Test.YthcmelchgnekpaaWZeros
import Derived.Test.YthcmelchgnekpaaWFoot
import Derived.Test.YthcmelchgnekpaaWKept
import Derived.Test.YthcmelchgnekpaaWShare
import Derived.Test.YthcmelchgnekpaaWN
import Derived.Test.YthcmelchgnekpaaWFootNe
import Derived.Test.YthcmelchgnekpaaWAt
import Derived.Test.YthcmelchgnekpaaWEqStruct
import Derived.Test.YthcmelchgnekpaaWRepsOne
import Derived.Test.YthcmelchgnekpaaWInv
import Derived.Test.YthcmelchgnekpaaWInvWords
import Derived.Test.YthcmelchgnekpaaWGuard
import Derived.Test.YthcmelchgnekpaaWNEv
import Derived.Test.YthcmelchgnekpaaWMore
import Derived.Test.YthcmelchgnekpaaXDelF
import Derived.Test.YthcmelchgnekpaaXRows
import Derived.Lib.AppendZeros
import Derived.Lib.Overlaps
import Derived.Laws.Externs
import Derived.Deep.RegionLaw
namespace Go.Proofs.Ythcmelchgnekpaa.XIns
open Go.RowKit Go.Proofs.YthcmelchgnekpaaW.PrintWords Go.Proofs.YthcmelchgnekpaaW.PrintLast Go.Proofs.YthcmelchgnekpaaW.PrintMore Go.Proofs.Ythcmelchgnekpaa.PA Go.Proofs.Ythcmelchgnekpaa.XDel Go.Proofs.Ythcmelchgnekpaa.XDelF
set_option linter.unusedVariables false
set_option linter.unusedSimpArgs false
/-- append(s, make([]T, n)...) where there is no room. -/
theorem run_append_zeros_grow {P : Program} (w : World) (t tn ty e : TypeId) (i : TypeInfo) (z : Value) (k kn : IntKind) (ht : P.underlying t = some (.slice e)) (htn : P.underlying tn = some (.int kn)) (hi : P.info? e = some i) (hz : i.zero = some z)
    (b : Addr) (sLen sCap : Nat) (olds : List Value) (hlo : olds.length = sLen * i.size) (holds : ∀ j v, olds[j]? = some v → w.cell? (b.add j) = some v)
    (n : Nat) (h0 : 0 < n) (hs : 0 < i.size) (hg : sCap < sLen + n) (h63 : ((sLen + n : Nat) : Int) ≤ 9223372036854775807) (h48 : n * i.bytes ≤ 281474976710656) (hfit : Builtin.nextslicecap (sLen + n) sCap * i.bytes ≤ 281474976710656) :
    (Builtin.append_ #[t, tn] ty #[.slice (some b) sLen sCap, .int k n]).run P w =
      .ok (.slice (some ⟨w.heap.size, 0, none⟩) (sLen + n) (grownCap w (sLen + n) sCap e))
        (w.drew.alloc (.cells (olds.toArray ++ Builtin.zeroCells z.cells n ++ Builtin.zeroCells z.cells (grownCap w (sLen + n) sCap e - (sLen + n))) e)) := by
  have hn : ¬ (sLen + n ≤ sCap) := by omega
  have hn0 : n ≠ 0 := by omega
  have hw : IntKind.i64.wrap (n : Int) = n := by rw [IntKind.wrap_i64]; omega
  have h63' : ¬ (9223372036854775807 < ((sLen : Int) + (n : Int))) := by omega
  have h48' : ¬ (281474976710656 < Builtin.nextslicecap (sLen + n) sCap * i.bytes) := by omega
  have h48i : ¬ (281474976710656 < (n : Int) * (i.bytes : Int)) := by
    rw [← Int.natCast_mul]
    omega
  have hneg : ¬ ((n : Int) < 0) := by omega
  have hns : ¬ (n * i.size = 0) := Nat.mul_ne_zero hn0 (by omega)
  have hfo := run_firstCells_some (P := P) w.drew i.size sLen b sLen sCap olds hlo (by simpa using holds)
  simp [Builtin.append_, run_underlying ht, run_underlying htn, sizeOf, typeInfo, zeroValue, hi, hz, asInt, asIntOf, hw, hn, hneg, hns, h63', h48', h48i, Question.forced, hfo, newRow, grownCap]
abbrev TS : TypeId := 25
abbrev TE : TypeId := 52
def enc (x : Sn) : List Value := [.string x.f0, .int .i64 x.f1.f0, .int .i64 x.f1.f1, .int .i64 x.f1.f2, .string x.f1.f3]
def encs (l : List Sn) : List Value := l.flatMap enc
theorem encs_len (l : List Sn) : (encs l).length = l.length * 5 := by
  induction l with
  | nil => rfl
  | cons x l ih => simp only [encs, List.flatMap_cons, List.length_append, List.length_cons] at ih ⊢; rw [ih]; simp [enc]; omega
theorem encs_app (l m : List Sn) : encs (l ++ m) = encs l ++ encs m := by simp [encs]
theorem encs_take (l : List Sn) (i : Nat) : (encs l).take (i * 5) = encs (l.take i) := by
  by_cases h : i ≤ l.length
  · conv => lhs; rw [← List.take_append_drop i l, encs_app]
    rw [List.take_append_of_le_length (by rw [encs_len, List.length_take]; omega), List.take_of_length_le (by rw [encs_len, List.length_take]; omega)]
  · rw [List.take_of_length_le (by rw [encs_len]; omega), List.take_of_length_le (by omega)]
theorem encs_drop (l : List Sn) (i : Nat) : (encs l).drop (i * 5) = encs (l.drop i) := by
  by_cases h : i ≤ l.length
  · conv => lhs; rw [← List.take_append_drop i l, encs_app]
    rw [List.drop_append_of_le_length (by rw [encs_len, List.length_take]; omega), List.drop_of_length_le (by rw [encs_len, List.length_take]; omega), List.nil_append]
  · rw [List.drop_of_length_le (by rw [encs_len]; omega), List.drop_of_length_le (by omega)]; rfl
theorem encs_one (l : List Sn) : ∀ v ∈ encs l, v.oneCell' = true := by
  intro v hv
  simp only [encs, List.mem_flatMap, enc] at hv
  obtain ⟨x, _, hv⟩ := hv
  simp only [List.mem_cons, List.not_mem_nil, or_false] at hv
  rcases hv with rfl | rfl | rfl | rfl | rfl <;> rfl
theorem reps_encs (w : World) (base : Nat) (okp : Nat → Prop) (l : List Sn) : Reps (kS.M w base okp) 5 l (encs l) := by
  induction l with
  | nil => exact Reps.none _ _
  | cons x l ih => exact Reps.c5 (k52_mkM _ _ _ x) ih
theorem encs_reps {w : World} {base : Nat} {okp : Nat → Prop} : ∀ {l : List Sn} {inner : List Value}, Reps (kS.M w base okp) 5 l inner → inner = encs l
  | [], inner, h => List.eq_nil_of_length_eq_zero (by have := h.1; simpa using this)
  | x :: l, inner, h => by
    have h0 := h.2 0 x rfl
    simp only [Nat.zero_mul, List.drop_zero] at h0
    have h1 := k52_openM h0
    have hl : inner.length = l.length * 5 + 5 := by have := h.1; simp only [List.length_cons] at this; omega
    have ih := encs_reps (w := w) (base := base) (okp := okp) (l := l) (inner := inner.drop 5) ⟨by rw [List.length_drop]; omega, fun j p hp => by
      have := h.2 (j + 1) p (by simpa using hp)
      rw [List.drop_drop]
      rw [show 5 + j * 5 = (j + 1) * 5 by omega]
      exact this⟩
    rw [← List.take_append_drop 5 inner, h1, ih]
    rfl
/-- A table of the call's own, by its block. -/
def Tab (w : World) (g c : Nat) (l : List Sn) : Prop := ∃ cur : Array Value, w.heap[g]? = some (.cells cur TE (0, 0)) ∧ cur.size = c * 5 ∧ l.length ≤ c ∧ c ≤ maxLen ∧ cur.toList.take (l.length * 5) = encs l
theorem Tab.R {w : World} {base g c : Nat} {l : List Sn} (h : Tab w g c l) (hg : base ≤ g) : kS.R TE w base (fun _ => True) (.slice (some ⟨g, 0, none⟩) l.length c) l := by
  obtain ⟨cur, h1, h2, h3, h4, h5⟩ := h
  exact ⟨fun _ _ => trivial, encs l, ⟨encs_len l, .inr ⟨g, c, cur, rfl, hg, h1, h3, h4, h2, h5⟩⟩, reps_encs _ _ _ l⟩
theorem Tab.of_R {w : World} {base : Nat} {v : Value} {l : List Sn} (h : kS.R TE w base (fun _ => True) v l) : (v = .slice none 0 0 ∧ l = []) ∨ ∃ g c, v = .slice (some ⟨g, 0, none⟩) l.length c ∧ base ≤ g ∧ Tab w g c l := by
  obtain ⟨_, inner, ⟨hl, hv⟩, hr⟩ := h
  have he := encs_reps hr
  subst he
  rcases hv with ⟨hv, hn⟩ | ⟨g, c, cur, hv, hg, h1, h3, h4, h2, h5⟩
  · exact .inl ⟨hv, List.eq_nil_of_length_eq_zero hn⟩
  · exact .inr ⟨g, c, hv, hg, cur, h1, h2, h3, h4, h5⟩
theorem Tab.cell {w : World} {g c : Nat} {l : List Sn} (h : Tab w g c l) (j : Nat) (v : Value) (hj : (encs l)[j]? = some v) : w.cell? ⟨g, j, none⟩ = some v := by
  obtain ⟨cur, h1, h2, h3, h4, h5⟩ := h
  have hlt : j < (encs l).length := by
    rcases Nat.lt_or_ge j (encs l).length with q | q
    · exact q
    · rw [List.getElem?_eq_none q] at hj; cases hj
  rw [encs_len] at hlt
  rw [blk_cell h1 j, ← hj, ← h5, List.getElem?_take_of_lt hlt, Array.getElem?_toList]
theorem Tab.some {w : World} {g c : Nat} {l : List Sn} (h : Tab w g c l) (j : Nat) (hj : j < c * 5) : (w.cell? ⟨g, j, none⟩).isSome = true := by
  obtain ⟨cur, h1, h2, h3, h4, h5⟩ := h
  rw [blk_cell h1 j, Array.getElem?_eq_getElem (by omega)]
  rfl
theorem Tab.free {w : World} {g c : Nat} {l : List Sn} (h : Tab w g c l) (j : Nat) : w.frozen? ⟨g, j, none⟩ = false := by
  obtain ⟨cur, h1, _⟩ := h
  exact blk_frozen h1 j
/-- Cells written over a table's block. -/
theorem Tab.put {w : World} {g c : Nat} {l : List Sn} (h : Tab w g c l) (m : List Sn) (o : Nat) (seg : List Value) (hfit : o + seg.length ≤ c * 5) (hm : m.length ≤ c)
    (hall : ∀ cur : List Value, cur.take (l.length * 5) = encs l → (cur.take o ++ seg ++ cur.drop (o + seg.length)).take (m.length * 5) = encs m) : Tab (w.setCells g o seg) g c m := by
  obtain ⟨cur, h1, h2, h3, h4, h5⟩ := h
  obtain ⟨cur', k1, k2, k3⟩ := setCells_row seg o w cur h1 (by omega)
  exact ⟨cur', k1, by rw [k2, h2], hm, h4, by rw [k3]; exact hall _ h5⟩
end Go.Proofs.Ythcmelchgnekpaa.XIns
