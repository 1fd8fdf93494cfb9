-- Several texts in one, without what the law does not use (wip/tools/bundle.py).
import Derived.Test.YtmigglldahkngaaBLinkTells2

section
/- Queues in plain lists: what the printed functions of queue, and of its reference, answer. -/
namespace Go.Proofs.Ytmigglldahkngaa.XV17
open Go.RowKit Go.Proofs.Ytmigglldahkngaa.PA Go.Proofs.YtmigglldahkngaaW.PrintWords Go.Proofs.YtmigglldahkngaaW.PrintLast Go.Proofs.Ytmigglldahkngaa.XGen
open Go.Proofs.Ytmigglldahkngaa.XPlace (idx is)
open Go.Proofs.Ytmigglldahkngaa.XIdent (isB okAt)
open Go.Proofs.Ytmigglldahkngaa.XMay (mayB numsB)
open Go.Proofs.Ytmigglldahkngaa.XOdd (odd)
set_option linter.unusedVariables false
set_option linter.unusedSimpArgs false
abbrev Ch := S34
theorem is_iff {n : ByteArray} {x : Ch} : is n x = true ↔ x.f0 = n := by simp [is, toList_inj]
theorem idx_no (p : Ch → Bool) : ∀ (l : List Ch) (i : Int), 0 ≤ i → (idx p l i = -1 ∧ ∀ x ∈ l, p x = false) ∨ ∃ (k : Nat) (h : k < l.length), idx p l i = i + k ∧ (∀ (j : Nat) (hj : j < l.length), j < k → p l[j] = false) ∧ p l[k] = true
 | [], i, _ => .inl ⟨rfl, fun x hx => by cases hx⟩
 | x :: t, i, h => by
  rw [idx]
  by_cases c : p x = true
  ·rw [if_pos c]
   exact .inr ⟨0, by simp, by simp, fun j _ hj => absurd hj (Nat.not_lt_zero j), c⟩
  ·rw [if_neg c]
   rcases idx_no p t (i + 1) (by omega) with ⟨h1, h2⟩ | ⟨k, h1, h2, h3, h5⟩
   ·refine .inl ⟨h1, fun y hy => ?_⟩
    rcases List.mem_cons.1 hy with rfl | hy
    ·exact Bool.eq_false_iff.mpr c
    ·exact h2 y hy
   ·refine .inr ⟨k + 1, by simp; omega, by rw [h2]; simp; omega, fun j hj hjk => ?_, by simpa using h5⟩
    cases j with
    | zero => simpa using c
    | succ j => simp only [List.getElem_cons_succ]; exact h3 j _ (by omega)
theorem rd_at (l : List Ch) (j : Nat) (h : j < l.length) : rd_T34 l (j : Int) = l[j] := by
 unfold rd_T34
 rw [Int.toNat_natCast, getD_lt l _ j h]
/-! ## places -/
theorem place_f (l : List Ch) (n : ByteArray) : api_Change_string.f l n = some (idx (is n) l 0, decide (0 ≤ idx (is n) l 0)) := rfl
theorem refPlaceL (l : List Ch) (n : ByteArray) (b : Bool) (hl : l.length ≤ 1000000) : ∀ (d k j : Nat), j + d = l.length → d < k → rollcallref17_place.l0 k n (j : Int) l b = some (idx (is n) (l.drop j) j) := by
 intro d
 induction d with
 | zero =>
  intro k j hj hk
  obtain ⟨k, rfl⟩ : ∃ m, k = m + 1 := ⟨k - 1, by omega⟩
  rw [rollcallref17_place.l0, if_neg (by omega), List.drop_eq_nil_of_le (by omega)]
  rfl
 | succ d ih =>
  intro k j hj hk
  obtain ⟨k, rfl⟩ : ∃ m, k = m + 1 := ⟨k - 1, by omega⟩
  rw [rollcallref17_place.l0, if_pos (by omega), if_pos (by omega), rd_at l j (by omega), drop_get l j (by omega), wrap_succ j (by omega), ih k (j + 1) (by omega) (by omega), idx]
  by_cases c : l[j].f0.toList = n.toList
  ·rw [if_pos c, if_pos (by simp [is, c])]
  ·rw [if_neg c, if_neg (by simp [is, c])]
   rfl
theorem refPlace_f (k : Nat) (l : List Ch) (n : ByteArray) (b : Bool) (hl : l.length ≤ 1000000) (hk : l.length < k) : rollcallref17_place.f k l b n = some (idx (is n) l 0) := refPlaceL l n b hl l.length k 0 (by omega) hk
/-! ## what may be -/
def z4 (x : Ch) : Bool := x.f2.f0 == 0 && (x.f2.f1 == 0 && (x.f2.f2 == 0 && (x.f2.f3.toList == ([] : List UInt8))))
def oneB (x : Ch) : Bool := isB x.f0 && if x.f1 = true then mayB x.f2.f0 x.f2.f1 x.f2.f2 x.f2.f3 else z4 x
theorem one_f (x : Ch) (h : x.f0.size ≤ 9223372036854775807) : queue_One.f x.f0 x.f1 x.f2.f0 x.f2.f1 x.f2.f2 x.f2.f3 = some (oneB x) := by
 unfold queue_One.f oneB
 have e : ident_Is.f x.f0 = some (isB x.f0) := by show XIdent.ident_Is.f x.f0 = _; unfold XIdent.ident_Is.f; rw [if_pos h]
 have e2 : value_May.f x.f2.f0 x.f2.f1 x.f2.f2 x.f2.f3 = some (mayB x.f2.f0 x.f2.f1 x.f2.f2 x.f2.f3) := rfl
 rw [e, e2]
 simp only [Option.bind_some]
 cases x.f1 <;> cases isB x.f0 <;> rfl
theorem refMayL (a0 a1 a2 : Int) (s : ByteArray) (hs : s.size ≤ 1000) : ∀ (d k j : Nat), j + d = s.size → d < k → rollcallref04_May.l0 k (j : Int) a0 a1 a2 s = some (!(((bytesOf s).drop j).any odd)) := by
 intro d
 induction d with
 | zero =>
  intro k j hj hk
  obtain ⟨k, rfl⟩ : ∃ m, k = m + 1 := ⟨k - 1, by omega⟩
  rw [rollcallref04_May.l0, if_neg (by omega), List.drop_eq_nil_of_le (by rw [bytesOf_length]; omega)]
  rfl
 | succ d ih =>
  intro k j hj hk
  obtain ⟨k, rfl⟩ : ∃ m, k = m + 1 := ⟨k - 1, by omega⟩
  have hb : (bytesOf s).drop j = bt s (j : Int) :: (bytesOf s).drop (j + 1) := by
   rw [List.drop_eq_getElem_cons (by rw [bytesOf_length]; omega)]
   congr 1
   unfold bytesOf bt
   rw [List.getElem_map, dif_pos (by rw [Int.toNat_natCast]; omega)]
   rfl
  rw [rollcallref04_May.l0, if_pos (by omega), if_pos (by omega), hb, List.any_cons]
  unfold odd
  by_cases c1 : bt s (j : Int) < 32
  ·rw [if_pos c1]; simp [c1]
  ·rw [if_neg c1]
   by_cases c2 : bt s (j : Int) > 126
   ·rw [if_pos c2]; simp [c2]
   ·rw [if_neg c2, wrap_succ j (by omega), ih k (j + 1) (by omega) (by omega)]
    have e : (decide (bt s (j : Int) < 32) || decide (126 < bt s (j : Int))) = false := by simp; omega
    rw [e]
    rfl
theorem may_off {a0 a1 a2 : Int} {a3 : ByteArray} (h : ¬ (1 ≤ a0 ∧ a0 ≤ 4 ∧ -128 ≤ a1 ∧ a1 ≤ 127 ∧ 0 ≤ a2 ∧ a2 ≤ 1099511627776 ∧ a3.size ≤ 32)) : mayB a0 a1 a2 a3 = false := by
 unfold mayB
 rw [if_neg (show ¬ numsB a0 a1 a2 a3 from h)]
theorem may_on {a0 a1 a2 : Int} {a3 : ByteArray} (h : 1 ≤ a0 ∧ a0 ≤ 4 ∧ -128 ≤ a1 ∧ a1 ≤ 127 ∧ 0 ≤ a2 ∧ a2 ≤ 1099511627776 ∧ a3.size ≤ 32) : mayB a0 a1 a2 a3 = !((bytesOf a3).any odd) := by
 unfold mayB
 rw [if_pos (show numsB a0 a1 a2 a3 from h)]
theorem refMay_f (k : Nat) (a0 a1 a2 : Int) (a3 : ByteArray) (hk : 40 ≤ k) : rollcallref04_May.f k a0 a1 a2 a3 = some (mayB a0 a1 a2 a3) := by
 obtain ⟨k, rfl⟩ : ∃ m, k = m + 1 := ⟨k - 1, by omega⟩
 unfold rollcallref04_May.f
 have ht : rollcallref04_May.j0 (k + 1) true a0 a1 a2 a3 = some false := by rw [rollcallref04_May.j0, if_pos rfl]
 by_cases c : 1 ≤ a0 ∧ a0 ≤ 4 ∧ -128 ≤ a1 ∧ a1 ≤ 127 ∧ 0 ≤ a2 ∧ a2 ≤ 1099511627776 ∧ a3.size ≤ 32
 ·rw [may_on c, if_neg (by omega), if_neg (by omega), if_neg (by omega), if_neg (by omega), if_neg (by omega), if_neg (by omega), rollcallref04_May.j0, if_neg (by simp; omega)]
  exact refMayL a0 a1 a2 a3 (by omega) a3.size k 0 (by omega) (by omega)
 ·rw [may_off c, ht]
  by_cases h1 : a0 < 1
  ·rw [if_pos h1]
  rw [if_neg h1]
  by_cases h2 : a0 > 4
  ·rw [if_pos h2]
  rw [if_neg h2]
  by_cases h3 : a1 < -128
  ·rw [if_pos h3]
  rw [if_neg h3]
  by_cases h4 : a1 > 127
  ·rw [if_pos h4]
  rw [if_neg h4]
  by_cases h5 : a2 < 0
  ·rw [if_pos h5]
  rw [if_neg h5]
  by_cases h6 : a2 > 1099511627776
  ·rw [if_pos h6]
  rw [if_neg h6]
  have e : decide ((a3.size : Int) > 32) = true := by simp; omega
  rw [e, ht]
def okR (s : ByteArray) (j : Nat) : Prop := (97 ≤ bt s j ∧ bt s j ≤ 122) ∨ (48 ≤ bt s j ∧ bt s j ≤ 57) ∨ bt s j = 45
instance (s : ByteArray) (j : Nat) : Decidable (okR s j) := by unfold okR; infer_instance
theorem refIsL (s : ByteArray) (hs : s.size ≤ 1000) : ∀ (d k j : Nat), j + d = s.size → d < k → rollcallref03_Is.l0 k s (j : Int) = some ((List.range' j d).all fun i => decide (okR s i)) := by
 intro d
 induction d with
 | zero =>
  intro k j hj hk
  obtain ⟨k, rfl⟩ : ∃ m, k = m + 1 := ⟨k - 1, by omega⟩
  rw [rollcallref03_Is.l0, if_neg (by omega)]
  rfl
 | succ d ih =>
  intro k j hj hk
  obtain ⟨k, rfl⟩ : ∃ m, k = m + 1 := ⟨k - 1, by omega⟩
  rw [rollcallref03_Is.l0, if_pos (by omega), if_pos (by omega), wrap_succ j (by omega), ih k (j + 1) (by omega) (by omega), List.range'_succ, List.all_cons]
  by_cases c : okR s j
  ·have e : decide (okR s j) = true := by simp [c]
   rw [e, Bool.true_and]
   unfold okR at c
   repeat' split
   all_goals first | rfl | (exfalso; omega)
  ·have e : decide (okR s j) = false := by simp [c]
   rw [e, Bool.false_and]
   unfold okR at c
   repeat' split
   all_goals first | rfl | (exfalso; omega)
theorem refIs_f (k : Nat) (s : ByteArray) (hk : 30 ≤ k) : rollcallref03_Is.f k s = some (isB s) := by
 obtain ⟨k, rfl⟩ : ∃ m, k = m + 1 := ⟨k - 1, by omega⟩
 unfold rollcallref03_Is.f isB
 have ht : rollcallref03_Is.j0 (k + 1) s true = some false := by rw [rollcallref03_Is.j0, if_pos rfl]
 by_cases h1 : (s.size : Int) < 1
 ·rw [if_pos h1, ht]
  have : decide (0 < s.size ∧ s.size ≤ 16) = false := by simp; omega
  rw [this, Bool.false_and]
 rw [if_neg h1]
 by_cases h2 : (s.size : Int) > 16
 ·rw [if_pos h2, ht]
  have : decide (0 < s.size ∧ s.size ≤ 16) = false := by simp; omega
  rw [this, Bool.false_and]
 rw [if_neg h2, if_pos (by omega)]
 have e1 : decide (0 < s.size ∧ s.size ≤ 16) = true := by simp; omega
 rw [e1, Bool.true_and]
 have e0 : ∀ b : Bool, b = decide (okAt s 0) → (List.range s.size).all (fun j => decide (okAt s j)) = (b && (List.range' 0 s.size).all fun i => decide (okR s i)) := by
  intro b hb
  rw [hb]
  obtain ⟨m, hm⟩ : ∃ m, s.size = m + 1 := ⟨s.size - 1, by omega⟩
  rw [hm, List.range_eq_range', List.range'_succ, List.all_cons, List.all_cons]
  have e2 : (List.range' (0 + 1) m).all (fun j => decide (okAt s j)) = (List.range' (0 + 1) m).all (fun i => decide (okR s i)) := by
   rw [Bool.eq_iff_iff, List.all_eq_true, List.all_eq_true]
   constructor
   ·intro h i hi
    have := h i hi
    have hi' := (List.mem_range'_1.1 hi).1
    simp only [decide_eq_true_eq] at this ⊢
    unfold okAt at this
    unfold okR
    omega
   ·intro h i hi
    have := h i hi
    have hi' := (List.mem_range'_1.1 hi).1
    simp only [decide_eq_true_eq] at this ⊢
    unfold okR at this
    unfold okAt
    omega
  rw [e2]
  by_cases c : okAt s 0
  ·have : okR s 0 := by unfold okAt at c; unfold okR; omega
   simp [c, this]
  ·simp [c]
 by_cases h3 : bt s 0 < 97
 ·rw [if_pos h3, ht, e0 false (by unfold okAt; simp; omega)]
  rfl
 rw [if_neg h3]
 by_cases h4 : bt s 0 > 122
 ·have e : decide (bt s 0 > 122) = true := by simp; omega
  rw [e, ht, e0 false (by unfold okAt; simp; omega)]
  rfl
 ·have e : decide (bt s 0 > 122) = false := by simp; omega
  rw [e, rollcallref03_Is.j0, if_neg (by simp), e0 true (by unfold okAt; simp; omega), Bool.true_and]
  exact refIsL s (by omega) s.size k 0 (by omega) (by omega)
theorem refOne_f (k : Nat) (x : Ch) (hk : 40 ≤ k) : rollcallref17_One.f k x.f0 x.f1 x.f2.f0 x.f2.f1 x.f2.f2 x.f2.f3 = some (oneB x) := by
 unfold rollcallref17_One.f oneB
 rw [refIs_f k _ (by omega), refMay_f k _ _ _ _ hk]
 simp only [Option.bind_some]
 cases x.f1 <;> cases isB x.f0 <;> rfl
/-- No two of one contact. -/
def Apart (l : List Ch) : Prop := ∀ (i j : Nat) (hi : i < l.length) (hj : j < l.length), j < i → l[j].f0 ≠ l[i].f0
/-! ## pushes -/
def PU (l : List Ch) (lat : Bool) (c : Ch) (room : Int) : List Ch × Bool :=
 if lat = true then (l, lat) else if 0 ≤ idx (is c.f0) l 0 then (l.set (idx (is c.f0) l 0).toNat c, false) else if (l.length : Int) < room then (l ++ [c], false) else ([], true)
theorem idx_lt (p : Ch → Bool) (l : List Ch) : idx p l 0 < (l.length : Int) := by
 rcases idx_no p l 0 (by omega) with ⟨h, _⟩ | ⟨m, hm, h, _⟩
 ·rw [h]; omega
 ·rw [h]; omega
theorem push_f (l : List Ch) (lat : Bool) (c : Ch) (room : Int) (hl : l.length ≤ 1000000) : queue_Push.f l lat c.f0 c.f1 c.f2.f0 c.f2.f1 c.f2.f2 c.f2.f3 room = some (PU l lat c room) := by
 unfold queue_Push.f PU
 cases lat with
 | true => rw [if_pos rfl, if_pos rfl]
 | false =>
  have e1 : api_Change_66.f l = some l := by
   show XCloneChg.slices_Clone.f l = _
   unfold XCloneChg.slices_Clone.f
   rw [if_pos (by omega)]
  have e2 : api_Change_67.f [l, [c]] = some (l ++ [c]) := by
   show XConcatChg.slices_Concat.f [l, [c]] = _
   unfold XConcatChg.slices_Concat.f
   rw [if_pos (by simp; omega)]
   simp
  have e3 : (⟨c.f0, c.f1, (⟨c.f2.f0, c.f2.f1, c.f2.f2, c.f2.f3⟩ : S32)⟩ : Ch) = c := rfl
  simp only [Bool.false_eq_true, if_false, place_f, e1, e3, Option.bind_some, decide_eq_true_eq]
  by_cases c1 : 0 ≤ idx (is c.f0) l 0
  ·rw [if_pos c1, if_pos c1, if_pos c1, if_pos (idx_lt _ l)]
  ·rw [if_neg c1, if_neg c1]
   by_cases c2 : (l.length : Int) < room
   ·rw [if_pos c2, if_pos c2, e2]
    rfl
   ·rw [if_neg c2, if_neg c2]
/-! ## the same -/
theorem sameL (l : List Ch) (hl : l.length ≤ 1000000) : ∀ (d k j : Nat), j + d = l.length → d < k → rollcallref05_SameChanges.l0 k l l (j : Int) = some true := by
 intro d
 induction d with
 | zero =>
  intro k j hj hk
  obtain ⟨k, rfl⟩ : ∃ m, k = m + 1 := ⟨k - 1, by omega⟩
  rw [rollcallref05_SameChanges.l0, if_neg (by omega)]
 | succ d ih =>
  intro k j hj hk
  obtain ⟨k, rfl⟩ : ∃ m, k = m + 1 := ⟨k - 1, by omega⟩
  rw [rollcallref05_SameChanges.l0, if_pos (by omega), if_pos (by omega), if_pos (by omega), if_neg (by simp), wrap_succ j (by omega)]
  exact ih k (j + 1) (by omega) (by omega)
theorem same_f (k : Nat) (l : List Ch) (b : Bool) (hl : l.length ≤ 1000000) (hk : l.length < k) : rollcallref17_Same.f k l b l b = some true := by
 unfold rollcallref17_Same.f rollcallref05_SameChanges.f
 have h0 := sameL l hl l.length k 0 (by omega) hk
 rw [Int.natCast_zero] at h0
 rw [if_pos (by simp), if_pos rfl, h0]
 rfl
theorem PU_len (l : List Ch) (lat : Bool) (c : Ch) (room : Int) : (PU l lat c room).1.length ≤ l.length + 1 := by
 unfold PU
 split
 ·simp
 ·split
  ·simp
  ·split <;> simp
theorem changesL (l : List Ch) (hl : l.length ≤ 1000000) : ∀ (d k j : Nat), j + d = l.length → d < k → ∃ b, rollcallref17_Changes.l0 k l (j : Int) = some b := by
 intro d
 induction d with
 | zero =>
  intro k j hj hk
  obtain ⟨k, rfl⟩ : ∃ m, k = m + 1 := ⟨k - 1, by omega⟩
  rw [rollcallref17_Changes.l0, if_neg (by omega)]
  exact ⟨_, rfl⟩
 | succ d ih =>
  intro k j hj hk
  obtain ⟨k, rfl⟩ : ∃ m, k = m + 1 := ⟨k - 1, by omega⟩
  rw [rollcallref17_Changes.l0, if_pos (by omega), if_pos (by omega), wrap_succ j (by omega)]
  split
  ·exact ⟨_, rfl⟩
  ·split
   ·exact ⟨_, rfl⟩
   ·exact ih k (j + 1) (by omega) (by omega)
theorem changes_f (k : Nat) (l : List Ch) (most : Int) (hm : most ≤ 1000000) (hk : most.toNat < k) : ∃ b, rollcallref17_Changes.f k l most = some b ∧ (b = true → (l.length : Int) ≤ most) := by
 unfold rollcallref17_Changes.f
 by_cases c : (l.length : Int) > most
 ·rw [if_pos c]
  exact ⟨_, rfl, fun h => by cases h⟩
 ·rw [if_neg c]
  obtain ⟨b, hb⟩ := changesL l (by omega) l.length k 0 (by omega) (by omega)
  exact ⟨b, hb, fun _ => by omega⟩
theorem few_f (k : Nat) (l : List Ch) (b : Bool) (hk : 60 ≤ k) : ∃ q, rollcallref17_Few.f k l b = some q ∧ (q = true → l.length ≤ 30) := by
 unfold rollcallref17_Few.f
 obtain ⟨q, hq, h⟩ := changes_f k l 30 (by omega) (by omega)
 rw [hq]
 exact ⟨q, rfl, fun e => by have := h e; omega⟩
end Go.Proofs.Ytmigglldahkngaa.XV17
end

section
/- Numbers, names and presences as bytes, in plain functions: what the printed functions that write them answer. -/
namespace Go.Proofs.Ytmigglldahkngaa.XPut
open Go.RowKit Go.Proofs.YtmigglldahkngaaW.PrintWords Go.Proofs.YtmigglldahkngaaW.PrintLast Go.Proofs.YtmigglldahkngaaW.PrintMore Go.Proofs.Ytmigglldahkngaa.PA Go.Proofs.Ytmigglldahkngaa.XVar Go.Proofs.Ytmigglldahkngaa.XBytes
open Go.Proofs.Ytmigglldahkngaa.XMay (mayB numsB)
open Go.Proofs.Ytmigglldahkngaa.XIdent (isB okAt)
open Go.Proofs.Ytmigglldahkngaa.XOdd (odd)
open Go.Proofs.Ytmigglldahkngaa.XV17 (refMay_f refIs_f)
set_option linter.unusedVariables false
set_option linter.unusedSimpArgs false
theorem putL : ∀ (d k : Nat) (n : Int) (xs : List Int), 0 ≤ n → n < pw (d + 1) → d < k → xs.length + d + 1 < 140737488355328 → varint_Put.l0 k n xs = some (strOfNums (xs ++ digs (d + 1) n))
 | d, 0, n, xs, _, _, hk, _ => by omega
 | d, k + 1, n, xs, h0, h1, hk, hl => by
  rw [varint_Put.l0, digs]
  by_cases c : n ≥ 128
  ·rw [if_pos c, if_pos (by omega), if_pos c, or128]
   cases d with
   | zero =>
    simp only [pw] at h1
    omega
   | succ d =>
    rw [putL d k (n / 128) _ (by omega) (by simp only [pw] at h1 ⊢; omega) (by omega) (by simp only [List.length_append, List.length_singleton]; omega), List.append_assoc, List.singleton_append]
  ·rw [if_neg c, if_pos (by omega), if_neg c, show n % 256 = n by omega]
theorem tdiv128 (n : Int) (h0 : 0 ≤ n) : Int.tdiv n 128 = n / 128 := Int.tdiv_eq_ediv_of_nonneg h0
theorem tmod128 (n : Int) (h0 : 0 ≤ n) : Int.tmod n 128 = n % 128 := Int.tmod_eq_emod_of_nonneg h0
/-- A number's bytes, as a text. -/
def P (n : Int) : ByteArray := strOfNums (digs 10 n)
theorem pw10 : pw 10 = 1180591620717411303424 := by decide
theorem put_f (k : Nat) (n : Int) (h0 : 0 ≤ n) (h1 : n < 18446744073709551616) (hk : 10 ≤ k) : varint_Put.f k n = some (P n) := by
 unfold varint_Put.f P
 rw [putL 9 k n [] h0 (by rw [pw10]; omega) (by omega) (by simp)]
 rfl
theorem P_size (n : Int) : (P n).size = (digs 10 n).length := strOfNums_size _
theorem P_le (n : Int) : (P n).size ≤ 10 := by rw [P_size]; exact digs_len 10 n
theorem P_pos (n : Int) : 1 ≤ (P n).size := by rw [P_size]; exact digs_pos 9 n
theorem text_f (k : Nat) (s : ByteArray) (hs : s.size ≤ 140737488351232) (hk : 10 ≤ k) : varint_Text.f k s = some (P s.size ++ s) := by
 unfold varint_Text.f
 rw [wrap_u64 _ (by omega) (by omega), put_f k _ (by omega) (by omega) hk]
 simp only [Option.bind_some]
 rw [if_pos (by have := P_le s.size; omega)]
def cat : List ByteArray → ByteArray
 | [] => ⟨#[]⟩
 | a :: r => a ++ cat r
theorem nil_app (a : ByteArray) : (⟨#[]⟩ : ByteArray) ++ a = a := ba_ext (by rw [app_data]; rfl)
theorem app_nil (a : ByteArray) : a ++ (⟨#[]⟩ : ByteArray) = a := ba_ext (by rw [app_data]; simp)
theorem cat_app (a b : List ByteArray) : cat (a ++ b) = cat a ++ cat b := by
 induction a with
 | nil => rw [List.nil_append]; exact (nil_app _).symm
 | cons x r ih => rw [List.cons_append, cat, ih, cat, app_assoc]
theorem cat_snoc (l : List ByteArray) (a : ByteArray) : cat (l ++ [a]) = cat l ++ a := by rw [cat_app, cat, cat, app_nil]
theorem cat_size (l : List ByteArray) (B : Nat) (h : ∀ a ∈ l, a.size ≤ B) : (cat l).size ≤ l.length * B := by
 induction l with
 | nil => show (0 : Nat) ≤ _; omega
 | cons x r ih =>
  rw [cat, app_size]
  have h1 := h x (List.mem_cons_self ..)
  have h2 := ih (fun a ha => h a (List.mem_cons_of_mem _ ha))
  rw [List.length_cons, Nat.add_mul]
  omega
def X (s : ByteArray) : ByteArray := P s.size ++ s
theorem X_size (s : ByteArray) : (X s).size = (P s.size).size + s.size := app_size ..
theorem may_nums {a0 a1 a2 : Int} {a3 : ByteArray} (h : mayB a0 a1 a2 a3 = true) : 1 ≤ a0 ∧ a0 ≤ 4 ∧ -128 ≤ a1 ∧ a1 ≤ 127 ∧ 0 ≤ a2 ∧ a2 ≤ 1099511627776 ∧ a3.size ≤ 32 := by
 unfold mayB at h
 by_cases c : numsB a0 a1 a2 a3
 ·exact c
 ·rw [if_neg c] at h; cases h
theorem may_f (a0 a1 a2 : Int) (a3 : ByteArray) : value_May.f a0 a1 a2 a3 = some (mayB a0 a1 a2 a3) := rfl
def Vb (a0 a1 a2 : Int) (a3 : ByteArray) : ByteArray := (strOfNums [a0, a1 + 128] ++ P a2) ++ X a3
theorem Vb_size (a0 a1 a2 : Int) (a3 : ByteArray) : (Vb a0 a1 a2 a3).size = 2 + (P a2).size + ((P a3.size).size + a3.size) := by
 unfold Vb
 rw [app_size, app_size, strOfNums_size, X_size]
 rfl
def PV (a0 a1 a2 : Int) (a3 : ByteArray) : ByteArray × Bool := if mayB a0 a1 a2 a3 = true then (Vb a0 a1 a2 a3, true) else (⟨#[]⟩, false)
theorem put_v (k : Nat) (a0 a1 a2 : Int) (a3 : ByteArray) (hk : 10 ≤ k) : value_Put.f k a0 a1 a2 a3 = some (PV a0 a1 a2 a3) := by
 unfold value_Put.f PV
 rw [may_f]
 simp only [Option.bind_some]
 by_cases c : mayB a0 a1 a2 a3 = true
 ·obtain ⟨h1, h2, h3, h4, h5, h6, h7⟩ := may_nums c
  have hP := P_le a2
  have hP2 := P_le (a3.size : Int)
  rw [if_pos c, if_pos c, wrap_u64 a2 (by omega) (by omega), put_f k a2 (by omega) (by omega) hk, text_f k a3 (by omega) hk, wrap_id (a1 - -128) (by omega) (by omega), Int.emod_eq_of_lt (by omega) (by omega : a0 < 256), Int.emod_eq_of_lt (by omega) (by omega : a1 - -128 < 256)]
  simp only [Option.bind_some]
  rw [if_pos (by rw [strOfNums_size]; simp; omega), if_pos (by rw [app_size, app_size, strOfNums_size]; simp; omega), show a1 - -128 = a1 + 128 by omega]
  rfl
 ·rw [if_neg c, if_neg c]
def nameP (s : ByteArray) : ByteArray × Bool := if isB s = true then (X s, true) else (⟨#[]⟩, false)
theorem isB_size {s : ByteArray} (h : isB s = true) : s.size ≤ 16 := by
 unfold isB at h
 have h2 : decide (0 < s.size ∧ s.size ≤ 16) = true := by cases q : decide (0 < s.size ∧ s.size ≤ 16) <;> simp_all
 exact (of_decide_eq_true h2).2
theorem put_n (k : Nat) (s : ByteArray) (h : s.size ≤ 9223372036854775807) (hk : 10 ≤ k) : ident_Put.f k s = some (nameP s) := by
 unfold ident_Put.f nameP
 have e : ident_Is.f s = some (isB s) := by show XIdent.ident_Is.f s = _; unfold XIdent.ident_Is.f; rw [if_pos h]
 rw [e]
 simp only [Option.bind_some]
 by_cases c : isB s = true
 ·rw [if_pos c, if_pos c, text_f k s (by have := isB_size c; omega) hk]
  rfl
 ·rw [if_neg c, if_neg c]
end Go.Proofs.Ytmigglldahkngaa.XPut
end

section
/- strings.Builder's methods at this program: the library's contracts, laid by hand where the kit's command leaves them (its structures name types that this program's bodies do not). -/
namespace Go.Proofs.Ytmigglldahkngaa.XBuilder
open Go.RowKit Go.Shelf Go.Proofs
def ren : Go.Shelf.Ren := ⟨fun | 166 => 98 | 169 => 102 | 240 => 104 | 276 => 106 | n => n, fun | 0 => 0 | 3 => 3 | 4 => 4 | 5 => 5 | 9 => 9 | 20 => 20 | 37 => 119 | 70 => 127 | 72 => 129 | 75 => 131 | 80 => 134 | 127 => 136 | 164 => 137 | n => n, fun | n => n⟩
theorem l166 : Lays.n166 Try.prog ren where
 mixed := by kernel_rfl
 f166 := Try.func98.trans (congrArg some (by kernel_rfl))
 f240 := Try.func104.trans (congrArg some (by kernel_rfl))
 f276 := Try.func106.trans (congrArg some (by kernel_rfl))
 t0 := Try.underlying0
 a0 := Try.isAgg0
 z0 := Try.sizeOf0
 v0 := Try.zeroValue0
 t3 := Try.underlying3
 a3 := Try.isAgg3
 z3 := Try.sizeOf3
 v3 := Try.zeroValue3
 t4 := Try.underlying4
 a4 := Try.isAgg4
 z4 := Try.sizeOf4
 v4 := Try.zeroValue4
 t9 := Try.underlying9
 a9 := Try.isAgg9
 z9 := Try.sizeOf9
 v9 := Try.zeroValue9
 t20 := Try.underlying20
 a20 := Try.isAgg20
 z20 := Try.sizeOf20
 v20 := Try.zeroValue20
 t37 := Try.underlying119
 a37 := Try.isAgg119
 z37 := Try.sizeOf119
 v37 := Try.zeroValue119
 t70 := Try.underlying127
 a70 := Try.isAgg127
 z70 := Try.sizeOf127
 v70 := Try.zeroValue127
 t72 := Try.underlying129
 a72 := Try.isAgg129
 z72 := Try.sizeOf129
 v72 := Try.zeroValue129
 t75 := Try.underlying131
 a75 := Try.isAgg131
 z75 := Try.sizeOf131
 v75 := Try.zeroValue131
 t164 := Try.underlying137
 a164 := Try.isAgg137
 z164 := Try.sizeOf137
 v164 := Try.zeroValue137
theorem l169 : Lays.n169 Try.prog ren where
 mixed := by kernel_rfl
 f169 := Try.func102.trans (congrArg some (by kernel_rfl))
 t0 := Try.underlying0
 a0 := Try.isAgg0
 z0 := Try.sizeOf0
 v0 := Try.zeroValue0
 t3 := Try.underlying3
 a3 := Try.isAgg3
 z3 := Try.sizeOf3
 v3 := Try.zeroValue3
 t9 := Try.underlying9
 a9 := Try.isAgg9
 z9 := Try.sizeOf9
 v9 := Try.zeroValue9
 t37 := Try.underlying119
 a37 := Try.isAgg119
 z37 := Try.sizeOf119
 v37 := Try.zeroValue119
 t70 := Try.underlying127
 a70 := Try.isAgg127
 z70 := Try.sizeOf127
 v70 := Try.zeroValue127
 t72 := Try.underlying129
 a72 := Try.isAgg129
 z72 := Try.sizeOf129
 v72 := Try.zeroValue129
 t127 := Try.underlying136
 a127 := Try.isAgg136
 z127 := Try.sizeOf136
 v127 := Try.zeroValue136
theorem ex : Builder.Extra Try.prog ren where
 sizeBuilder := by kernel_rfl
 liesBuilder := by kernel_rfl
 t5 := Try.underlying5
 a5 := Try.isAgg5
 z5 := Try.sizeOf5
 v5 := Try.zeroValue5
 infoByte := by kernel_rfl
 cellsByte := by kernel_rfl
 sizeByte := by kernel_rfl
 neB5 := by decide
/-- A builder that holds a text. -/
def Bld (B b : Nat) (s : ByteArray) (w : World) : Prop := Lib.IsBuilder 129 5 B b (Lib.strCells s) w
theorem Bld.new (w : World) : Bld w.heap.size w.heap.size ⟨#[]⟩ (w.alloc (.cells #[.pointer none, .slice none 0 0] 129)) := Lib.fresh_isBuilder _ _ w
theorem strCells_app (a b : ByteArray) : Lib.strCells (a ++ b) = Lib.strCells a ++ Lib.strCells b := by
 unfold Lib.strCells
 rw [← List.map_append]
 congr 1
theorem write_calls (B b : Nat) (a s : ByteArray) (w : World) (h : Bld B b a w) (hl : a.size + s.size ≤ 140737488355328) (hB : B ≤ w.heap.size) :
  Calls Try.prog 98 #[.pointer (some ⟨b, 0, none⟩), .string s] w fun e w' => e = .returned (.tuple #[.int .i64 s.size, .nilIface]) ∧ Bld B b (a ++ s) w' ∧ Below B w w' := by
 refine (Any.Builder_WriteString (ρ := ren) l166 ex B b (Lib.strCells a) s w h (by rw [Lib.strCells_length]; exact hl) hB).mono ?_
 rintro e w' ⟨he, hb, hw⟩
 refine ⟨he, ?_, hw⟩
 unfold Bld
 rw [strCells_app]
 exact Or.inr hb
theorem string_calls (B b : Nat) (a : ByteArray) (w : World) (h : Bld B b a w) (hB : B ≤ w.heap.size) :
  Calls Try.prog 102 #[.pointer (some ⟨b, 0, none⟩)] w fun e w' => e = .returned (.string a) ∧ Below B w w' := by
 have h' : Lib.IsBuilder 129 5 B b (Lib.byteCells a.data.toList) w := h
 refine (Any.Builder_String_any (ρ := ren) l169 ex B b a.data.toList w h' hB).mono ?_
 rintro e w' ⟨he, hw⟩
 exact ⟨he, hw⟩
end Go.Proofs.Ytmigglldahkngaa.XBuilder
end

section
-- Written by a program of this session (wip/tools/xprint.py), which drives the kit's print.
namespace Go.Proofs.Ytmigglldahkngaa.PA
open Go.RowKit Go.Proofs.YtmigglldahkngaaW.PrintWords Go.Proofs.YtmigglldahkngaaW.PrintLast Go.Proofs.YtmigglldahkngaaW.PrintMore Go.Proofs.Ytmigglldahkngaa.XQuiet
attribute [local go_sem] max2_int min2_int max_two min_two   -- for this text's walks alone
set_option linter.unusedVariables false
set_option linter.unusedSimpArgs false

/-! ### digest_May: function 50 -/
def digest_May.l0 : Nat → List (S72) → List (S72) → Int → Int → Option (Bool)
 | 0, _, _, _, _ => none
 | k + 1, x0, x5, x6, x7 => if x7 < x6 then (if 0 ≤ x7 then (if x7 < (x5.length : Int) then ((ident_Is.f ((rd_T72 x5 x7).f0)).bind fun t189 => (if t189 = true then ((value_May.f ((rd_T72 x5 x7).f1.f0) ((rd_T72 x5 x7).f1.f1) ((rd_T72 x5 x7).f1.f2) ((rd_T72 x5 x7).f1.f3)).bind fun t190 => (if t190 = true then (if x7 > 0 then (if 0 ≤ (wrap64 (x7 - 1)) then (if (wrap64 (x7 - 1)) < (x0.length : Int) then ((ident_Less.f ((rd_T72 x0 (wrap64 (x7 - 1))).f0) ((rd_T72 x5 x7).f0)).bind fun t192 => (if t192 = true then (digest_May.l0 k x0 x5 x6 (wrap64 (x7 + 1))) else (some false))) else (none)) else (none)) else (digest_May.l0 k x0 x5 x6 (wrap64 (x7 + 1)))) else (some false))) else (some false))) else (none)) else (none)) else (some (decide ((x0.length : Int) ≤ 32)))
def digest_May.f (k : Nat) (l0 : List (S72)) : Option (Bool) := digest_May.l0 k l0 l0 (l0.length : Int) 0
set_option maxHeartbeats 8000000 in
set_option maxRecDepth 100000 in
theorem digest_May.calls (k : Nat) (A0 : Option Addr) (c0 : Nat) (l0 : List (S72)) (r : Bool) (w : World) (hr0 : Kd.C k72 w A0 l0.length l0) (hc0 : l0.length ≤ c0) (h : digest_May.f k l0 = some r) :
  Calls Try.prog 50 #[.slice A0 l0.length c0] w fun e w' => e = .returned (.bool r) ∧ Below w.heap.size w w' := by
 unfold digest_May.f at h
 have hm63 : (l0.length : Int) ≤ 9223372036854775807 := by have := hr0.2.1; omega
 have HR := Aside0.mk hr0
 have HH := Aside0.mk h
 clear hr0 hc0 h
 go_enter Try.func50, Try.ntmps50
 have HB := Aside0.mk (Below.refl w.heap.size w)
 go_wp2
 go_loopg [7] k (fun g x wr => ∃ i : Nat, x = .int .i64 i ∧ i ≤ l0.length ∧ Aside0 (digest_May.l0 g l0 l0 (l0.length : Int) (i : Int) = some r) ∧ Aside0 (Below w.heap.size w wr))
 case atStart => exact ⟨0, rfl, Nat.zero_le _, HH, HB⟩
 case round =>
  obtain ⟨i, rfl, hi, hh, hb⟩ := hrel
  clear HH HB
  obtain ⟨g, rfl⟩ : ∃ g, gk = g + 1 := by
   cases gk with
   | zero => exact absurd hh.out (by simp [digest_May.l0])
   | succ g => exact ⟨g, rfl⟩
  have h := hh.out
  clear hh
  rw [digest_May.l0] at h
  by_cases hlt : (i : Int) < (l0.length : Int)
  ·rw [if_pos hlt, if_pos (by omega), if_pos hlt] at h
   have hC := Kd.C_below HR.out hb.out
   obtain ⟨ad, he, h0, h1, h2, h3, h4⟩ := at_T72 hC (i : Int) (by omega) (by omega)
   subst he
   rw [Int.toNat_natCast] at h0 h1 h2 h3 h4
   have h0i : (0 : Int) ≤ (i : Int) := by omega
   generalize rd_T72 l0 (i : Int) = x at h h0 h1 h2 h3 h4
   go_upto_region 4 with (fail)
   generalize hg : World.alloc _ _ = w2
   have hb2 : Below wr.heap.size wr w2 := hg ▸ below_alloc (Below.refl _ _) _
   have T4 : w2.heap[wr.heap.size]? = some (.cells #[.string x.f0, .int .i64 x.f1.f0, .int .i64 x.f1.f1, .int .i64 x.f1.f2, .string x.f1.f3] 72 (0, 0)) := hg ▸ heap_alloc_new _ _
   replace hb := Aside0.mk (below_step hb.out hb2)
   replace hC := Kd.C_below hC hb2
   clear h0 h1 h2 h3 h4 hg hb2
   generalize wr.heap.size = p4 at T4 ⊢
   have h0 := (blk_cell T4 0).trans rfl
   have h1 := (blk_cell T4 1).trans rfl
   have h2 := (blk_cell T4 2).trans rfl
   have h3 := (blk_cell T4 3).trans rfl
   have h4 := (blk_cell T4 4).trans rfl
   clear T4
   rcases hI : ident_Is.f x.f0 with _ | b1
   ·rw [hI] at h; exact absurd h (by simp)
   rw [hI] at h
   simp only [Option.bind_some] at h
   have d1 := fun u : Kin w2 => ident_Is.calls x.f0 b1 u.at' hI
   have y0 : ∀ u : Kin w2, u.at'.cell? _ = _ := Kin.cell h0
   have y1 : ∀ u : Kin w2, u.at'.cell? _ = _ := Kin.cell h1
   have y2 : ∀ u : Kin w2, u.at'.cell? _ = _ := Kin.cell h2
   have y3 : ∀ u : Kin w2, u.at'.cell? _ = _ := Kin.cell h3
   have y4 : ∀ u : Kin w2, u.at'.cell? _ = _ := Kin.cell h4
   clear hI
   cases b1 with
   | false =>
    rw [if_neg (by simp)] at h
    obtain rfl := Option.some.inj h
    go_wp2_with fail
    refine region_kin (by kernel_rfl) (by kernel_rfl) ?_
    repeat (go_big_quiet_step ((first | (go_at_call 68; first | exact Kin.call (d1 _) | exact Kin.same (d1 _) | exact Kin.call ((d1 _).mono fun _ _ q => ⟨q.1, q.2.below⟩)))))
    refine wpQuiet_nil ?_
    rintro w6 ⟨⟨_, b6⟩, rfl⟩
    have HX := Aside0.mk (below_step hb.out b6)
    clear hC h0 h1 h2 h3 h4 y0 y1 y2 y3 y4 d1 hb b6
    go_wp2
    go_ret
    exact ⟨rfl, HX.out⟩
   | true =>
    rw [if_pos rfl] at h
    rcases hJ : value_May.f x.f1.f0 x.f1.f1 x.f1.f2 x.f1.f3 with _ | b2
    ·rw [hJ] at h; exact absurd h (by simp)
    rw [hJ] at h
    simp only [Option.bind_some] at h
    have d2 := fun u : Kin w2 => value_May.calls x.f1.f0 x.f1.f1 x.f1.f2 x.f1.f3 b2 u.at' hJ
    clear hJ
    cases b2 with
    | false =>
     rw [if_neg (by simp)] at h
     obtain rfl := Option.some.inj h
     go_wp2_with fail
     refine region_kin (by kernel_rfl) (by kernel_rfl) ?_
     repeat (go_big_quiet_step ((first | (go_at_call 68; first | exact Kin.call (d1 _) | exact Kin.same (d1 _) | exact Kin.call ((d1 _).mono fun _ _ q => ⟨q.1, q.2.below⟩)) | (go_at_call 69; first | exact Kin.call (d2 _) | exact Kin.same (d2 _) | exact Kin.call ((d2 _).mono fun _ _ q => ⟨q.1, q.2.below⟩)))))
     refine wpQuiet_nil ?_
     rintro w6 ⟨⟨_, b6⟩, rfl⟩
     have HX := Aside0.mk (below_step hb.out b6)
     clear hC h0 h1 h2 h3 h4 y0 y1 y2 y3 y4 d1 hb b6
     go_wp2
     go_ret
     exact ⟨rfl, HX.out⟩
    | true =>
     rw [if_pos rfl] at h
     by_cases hp : (i : Int) > 0
     rotate_left
     ·rw [if_neg hp] at h
      have hp' : ¬ (0 : Int) < (i : Int) := hp
      have hpd : decide ((0 : Int) < (i : Int)) = false := decide_eq_false hp'
      have hpn : decide (0 < i) = false := decide_eq_false (by omega)
      clear hp'
      go_wp2_with fail
      refine region_kin (by kernel_rfl) (by kernel_rfl) ?_
      repeat (go_big_quiet_step ((first | (go_at_call 68; first | exact Kin.call (d1 _) | exact Kin.same (d1 _) | exact Kin.call ((d1 _).mono fun _ _ q => ⟨q.1, q.2.below⟩)) | (go_at_call 69; first | exact Kin.call (d2 _) | exact Kin.same (d2 _) | exact Kin.call ((d2 _).mono fun _ _ q => ⟨q.1, q.2.below⟩)))))
      refine wpQuiet_nil ?_
      rintro w6 ⟨⟨_, b6⟩, rfl⟩
      have HX := Aside0.mk (below_step hb.out b6)
      rw [show wrap64 ((i : Int) + 1) = ((i + 1 : Nat) : Int) by unfold wrap64; omega] at h
      have HN := Aside0.mk h
      have hw : IntKind.i64.wrap ((i : Int) + 1) = (i : Int) + 1 := by rw [IntKind.wrap_i64]; omega
      clear hC h0 h1 h2 h3 h4 y0 y1 y2 y3 y4 d1 hb b6 h
      go_wp2
      go_roundg g
      case measure => omega
      case rel => exact ⟨i + 1, by first | rfl | (congr 1), by omega, HN, HX⟩
     ·rw [if_pos hp] at h
      have hw1 : wrap64 ((i : Int) - 1) = ((i - 1 : Nat) : Int) := by unfold wrap64; omega
      have hw2 : IntKind.i64.wrap ((i : Int) - 1) = ((i - 1 : Nat) : Int) := by rw [IntKind.wrap_i64]; omega
      rw [hw1, if_pos (by omega), if_pos (by omega)] at h
      obtain ⟨ad2, he2, j0, _⟩ := at_T72 hC ((i - 1 : Nat) : Int) (by omega) (by omega)
      obtain rfl : ad = ad2 := by injection he2
      rw [Int.toNat_natCast] at j0
      have hp' : (0 : Int) < (i : Int) := hp
      have hpd : decide ((0 : Int) < (i : Int)) = true := decide_eq_true hp'
      have hpn : decide (0 < i) = true := decide_eq_true (by omega)
      have hq0 : (0 : Int) ≤ ((i - 1 : Nat) : Int) := by omega
      have hq1 : ((i - 1 : Nat) : Int) < (l0.length : Int) := by omega
      generalize rd_T72 l0 ((i - 1 : Nat) : Int) = y at h j0
      rcases hK : ident_Less.f y.f0 x.f0 with _ | b3
      ·rw [hK] at h; exact absurd h (by simp)
      rw [hK] at h
      simp only [Option.bind_some] at h
      have d3 := fun u : Kin w2 => ident_Less.calls y.f0 x.f0 b3 u.at' hK
      have y5 : ∀ u : Kin w2, u.at'.cell? _ = _ := Kin.cell j0
      clear hK hp hw1 he2
      cases b3 with
      | false =>
       rw [if_neg (by simp)] at h
       obtain rfl := Option.some.inj h
       go_wp2_with fail
       refine region_kin (by kernel_rfl) (by kernel_rfl) ?_
       repeat (go_big_quiet_step ((first | (go_at_call 68; first | exact Kin.call (d1 _) | exact Kin.same (d1 _) | exact Kin.call ((d1 _).mono fun _ _ q => ⟨q.1, q.2.below⟩)) | (go_at_call 69; first | exact Kin.call (d2 _) | exact Kin.same (d2 _) | exact Kin.call ((d2 _).mono fun _ _ q => ⟨q.1, q.2.below⟩)) | (go_at_call 70; first | exact Kin.call (d3 _) | exact Kin.same (d3 _) | exact Kin.call ((d3 _).mono fun _ _ q => ⟨q.1, q.2.below⟩)))))
       refine wpQuiet_nil ?_
       rintro w6 ⟨⟨_, b6⟩, rfl⟩
       have HX := Aside0.mk (below_step hb.out b6)
       clear hC h0 h1 h2 h3 h4 y0 y1 y2 y3 y4 d1 hb b6
       go_wp2
       go_ret
       exact ⟨rfl, HX.out⟩
      | true =>
       rw [if_pos rfl] at h
       go_wp2_with fail
       refine region_kin (by kernel_rfl) (by kernel_rfl) ?_
       repeat (go_big_quiet_step ((first | (go_at_call 68; first | exact Kin.call (d1 _) | exact Kin.same (d1 _) | exact Kin.call ((d1 _).mono fun _ _ q => ⟨q.1, q.2.below⟩)) | (go_at_call 69; first | exact Kin.call (d2 _) | exact Kin.same (d2 _) | exact Kin.call ((d2 _).mono fun _ _ q => ⟨q.1, q.2.below⟩)) | (go_at_call 70; first | exact Kin.call (d3 _) | exact Kin.same (d3 _) | exact Kin.call ((d3 _).mono fun _ _ q => ⟨q.1, q.2.below⟩)))))
       refine wpQuiet_nil ?_
       rintro w6 ⟨⟨_, b6⟩, rfl⟩
       have HX := Aside0.mk (below_step hb.out b6)
       rw [show wrap64 ((i : Int) + 1) = ((i + 1 : Nat) : Int) by unfold wrap64; omega] at h
       have HN := Aside0.mk h
       have hw : IntKind.i64.wrap ((i : Int) + 1) = (i : Int) + 1 := by rw [IntKind.wrap_i64]; omega
       clear hC h0 h1 h2 h3 h4 y0 y1 y2 y3 y4 d1 hb b6 h
       go_wp2
       go_roundg g
       case measure => omega
       case rel => exact ⟨i + 1, by first | rfl | (congr 1), by omega, HN, HX⟩
  ·rw [if_neg hlt] at h
   obtain rfl := Option.some.inj h
   have hlt' : (l0.length : Int) ≤ (i : Int) := by omega
   have hnd : decide ((i : Int) < (l0.length : Int)) = false := decide_eq_false hlt
   clear h hlt
   go_wp2
   go_ret
   exact ⟨rfl, hb.out⟩
end Go.Proofs.Ytmigglldahkngaa.PA
end

section
/- digest's Put and Sum, walked, over a table that may be. -/
namespace Go.Proofs.Ytmigglldahkngaa.XSum
open Go.RowKit Go.Proofs.YtmigglldahkngaaW.PrintWords Go.Proofs.YtmigglldahkngaaW.PrintLast Go.Proofs.YtmigglldahkngaaW.PrintMore Go.Proofs.Ytmigglldahkngaa.PA Go.Proofs.Ytmigglldahkngaa.XMem Go.Proofs.Ytmigglldahkngaa.XPut Go.Proofs.Ytmigglldahkngaa.XBuilder
open Go.Proofs.Ytmigglldahkngaa.XMay (mayB numsB)
open Go.Proofs.Ytmigglldahkngaa.XIdent (isB)
open Go.Proofs.Ytmigglldahkngaa.XGen (wrap_succ getD_lt drop_get)
set_option linter.unusedVariables false
set_option linter.unusedSimpArgs false
abbrev Se := S72
abbrev kSe : Kd Se := k72
def rowB (x : Se) : ByteArray := (nameP x.f0).1 ++ (PV x.f1.f0 x.f1.f1 x.f1.f2 x.f1.f3).1
def putB (l : List Se) : ByteArray := P (l.length : Int) ++ cat (l.map rowB)
theorem rowB_size (x : Se) : (nameP x.f0).1.size ≤ 26 ∧ (PV x.f1.f0 x.f1.f1 x.f1.f2 x.f1.f3).1.size ≤ 60 := by
 constructor
 ·unfold nameP
  split
  ·rename_i h
   have h1 := isB_size h
   have h2 := P_le (x.f0.size : Int)
   rw [X_size]
   omega
  ·exact Nat.zero_le _
 ·unfold PV
  split
  ·rename_i h
   obtain ⟨_, _, _, _, _, _, h7⟩ := may_nums h
   have h1 := P_le x.f1.f2
   have h2 := P_le (x.f1.f3.size : Int)
   rw [Vb_size]
   omega
  ·exact Nat.zero_le _
theorem putB_size (l : List Se) (n : Nat) : (P (n : Int) ++ cat (l.map rowB)).size ≤ 10 + 86 * l.length := by
 rw [XBytes.app_size]
 have h1 := P_le (n : Int)
 have h2 := cat_size (l.map rowB) 86 (fun a ha => by
  obtain ⟨x, _, rfl⟩ := List.mem_map.1 ha
  unfold rowB
  rw [XBytes.app_size]
  have := rowB_size x
  omega)
 rw [List.length_map] at h2
 omega
theorem bld_below {B b : Nat} {s : ByteArray} {w w' : World} (h : Bld B b s w) (hb : Below w.heap.size w w') : Bld B b s w' := by
 rcases h with ⟨h1, v, h2, h3, h4⟩ | ⟨h1, v, h2, h3, h4⟩
 ·exact .inl ⟨h1, v, blk_below h2 hb, pw_own_below h3 hb, h4⟩
 ·exact .inr ⟨h1, v, blk_below h2 hb, pw_own_below h3 hb, h4⟩
theorem rd_at (l : List Se) (j : Nat) (h : j < l.length) : rd_T72 l (j : Int) = l[j] := by
 unfold rd_T72
 rw [Int.toNat_natCast, getD_lt l _ j h]
set_option maxHeartbeats 4000000 in
set_option maxRecDepth 100000 in
theorem put_calls (k0 : Nat) (l : List Se) (hl : l.length ≤ 40) (hm : digest_May.f k0 l = some true) (hz : ∀ x ∈ l, x.f0.size ≤ 9223372036854775807) (w : World) (v : Value) (h : Im kSe w v l) :
  Calls Try.prog 95 #[v] w fun e w' => e = .returned (.tuple #[.string (putB l), .bool true]) ∧ Below w.heap.size w w' := by
 obtain ⟨A, c, rfl, hc, hC⟩ := h.slice
 have HM := Aside0.mk (digest_May.calls k0 A c l true w hC hc hm)
 have HP := Aside0.mk (fun w => varint_Put.calls 20 (l.length : Int) (P (l.length : Int)) w (put_f 20 _ (by omega) (by omega) (by omega)))
 have HZ := Aside0.mk hz
 have HC := Aside0.mk hC
 have hl' : (l.length : Int) ≤ 40 := by omega
 have hu : IntKind.u64.wrap (l.length : Int) = (l.length : Int) := XVar.wrap_u64 _ (by omega) (by omega)
 clear hm hz h hC hc
 go_enter Try.func95, Try.ntmps95
 have HB : Below w.heap.size w w := Below.refl _ _
 go_wp2_with fail
 refine HM.out.mono ?_
 rintro e w1 ⟨rfl, hb⟩
 replace HB := below_step HB hb
 clear hb HM
 have hwz : w.heap.size ≤ w1.heap.size := HB.size
 go_upto_region 4 with (fail)
 generalize hg : World.alloc _ _ = w2
 have hbl : Bld w1.heap.size w1.heap.size ⟨#[]⟩ w2 := by rw [← hg]; exact Bld.new w1
 have hba := al_below hg
 have hz2 := hba.size
 replace HB := below_step HB hba
 clear hg hba
 generalize w1.heap.size = p at hbl hz2 hwz ⊢
 go_wp2_with fail
 refine (HP.out w2).mono ?_
 rintro e w3 ⟨rfl, hb⟩
 replace HB := below_step HB hb
 replace hbl := bld_below hbl hb
 have hz3 := Nat.le_trans hz2 hb.size
 clear hb HP hz2
 go_wp2_with fail
 refine (write_calls p p _ _ w3 hbl (by have := P_le (l.length : Int); show 0 + _ ≤ _; omega) hz3).mono ?_
 rintro e w4 ⟨rfl, hbl4, hb⟩
 rw [nil_app] at hbl4
 replace HB := HB.trans (hb.mono hwz)
 have hz4 := Nat.le_trans hz3 hb.size
 clear hb hbl hz3
 have HL := Aside0.mk (show Bld p p (P (l.length : Int) ++ cat ((l.take 0).map rowB)) w4 by rw [List.take_zero]; show Bld p p (_ ++ (⟨#[]⟩ : ByteArray)) w4; rw [app_nil]; exact hbl4)
 have HBr := Aside0.mk HB
 have HZr := Aside0.mk hz4
 clear hbl4 HB hz4
 go_wp2
 go_loopw [21] (fun x wr => ∃ k : Nat, x = .int .i64 k ∧ k ≤ l.length ∧ Aside0 (Bld p p (P (l.length : Int) ++ cat ((l.take k).map rowB)) wr) ∧ Aside0 (Below w.heap.size w wr) ∧ Aside0 (p ≤ wr.heap.size)) (fun x _ => l.length - (intOf x).toNat)
 case atStart => exact ⟨0, rfl, Nat.zero_le _, HL, HBr, HZr⟩
 case round =>
  clear HL HBr HZr
  obtain ⟨k, rfl, hk, hbl, hbr, hzr⟩ := hrel
  have k0 : (0 : Int) ≤ (k : Int) := by omega
  have k1 : (k : Int) ≤ 40 := by omega
  by_cases hlt : k < l.length
  ·have k2 : (k : Int) < (l.length : Int) := by omega
   obtain ⟨ad, he, h0, h1, h2, h3, h4⟩ := at_T72 (Kd.C_below HC.out hbr.out) (k : Int) (by omega) (by omega)
   subst he
   rw [Int.toNat_natCast] at h0 h1 h2 h3 h4
   rw [rd_at l k hlt] at h0 h1 h2 h3 h4
   have hx := HZ.out l[k] (List.getElem_mem hlt)
   have hnp := put_n 20 l[k].f0 hx (by omega)
   have hvp := put_v 20 l[k].f1.f0 l[k].f1.f1 l[k].f1.f2 l[k].f1.f3 (by omega)
   have hrow : P (l.length : Int) ++ cat ((l.take (k + 1)).map rowB) = (P (l.length : Int) ++ cat ((l.take k).map rowB)) ++ ((nameP l[k].f0).1 ++ (PV l[k].f1.f0 l[k].f1.f1 l[k].f1.f2 l[k].f1.f3).1) := by
    rw [List.take_succ_eq_append_getElem hlt, List.map_append, cat_app, XBytes.app_assoc]
    show _ ++ (_ ++ (rowB l[k] ++ (⟨#[]⟩ : ByteArray))) = _
    rw [app_nil]
    rfl
   have hs1 := rowB_size l[k]
   have hs2 := putB_size (l.take k) l.length
   rw [List.length_take] at hs2
   have HR := Aside0.mk hrow
   generalize l[k] = x at h0 h1 h2 h3 h4 hnp hvp HR hs1
   rcases hnq : nameP x.f0 with ⟨n1, n2⟩
   rcases hvq : PV x.f1.f0 x.f1.f1 x.f1.f2 x.f1.f3 with ⟨v1, v2⟩
   rw [hnq] at hnp HR hs1
   rw [hvq] at hvp HR hs1
   have HN := Aside0.mk (fun w => ident_Put.calls 20 x.f0 n1 n2 w hnp)
   have HV := Aside0.mk (fun w => value_Put.calls 20 x.f1.f0 x.f1.f1 x.f1.f2 x.f1.f3 v1 v2 w hvp)
   have hsz : n1.size + v1.size ≤ 90 := by have := hs1.1; have := hs1.2; simp only at *; omega
   have hsz' : (n1.size : Int) + (v1.size : Int) ≤ 90 := by omega
   have HS2 := Aside0.mk hs2
   clear hnq hvq hnp hvp hs1 hs2 hx hrow
   go_upto_region 8 with (fail)
   generalize hg : World.alloc _ _ = w5
   have hba := al_below hg
   have T6 := al_new hg
   have HB := below_step hbr.out hba
   have hb5 := bld_below hbl.out hba
   have hz5 := Nat.le_trans hzr.out hba.size
   clear hg hba hbr hbl hzr h0 h1 h2 h3 h4
   generalize wr.heap.size = p6 at T6 ⊢
   have r0 := (blk_cell T6 0).trans rfl
   have r1 := (blk_cell T6 1).trans rfl
   have r2 := (blk_cell T6 2).trans rfl
   have r3 := (blk_cell T6 3).trans rfl
   have r4 := (blk_cell T6 4).trans rfl
   go_wp2_with fail
   refine (HN.out w5).mono ?_
   rintro e w6 ⟨rfl, hb⟩
   replace HB := below_step HB hb
   replace hb5 := bld_below hb5 hb
   replace hz5 := Nat.le_trans hz5 hb.size
   replace r1 := pw_cell_below hb r1
   replace r2 := pw_cell_below hb r2
   replace r3 := pw_cell_below hb r3
   replace r4 := pw_cell_below hb r4
   clear hb HN r0 T6
   go_wp2_with fail
   refine (HV.out w6).mono ?_
   rintro e w7 ⟨rfl, hb⟩
   replace HB := below_step HB hb
   replace hb5 := bld_below hb5 hb
   replace hz5 := Nat.le_trans hz5 hb.size
   clear hb HV r1 r2 r3 r4
   go_wp2_with fail
   refine (write_calls p p _ (n1 ++ v1) w7 hb5 (by have := HS2.out; have : (n1 ++ v1).size = n1.size + v1.size := XBytes.app_size ..; omega) hz5).mono ?_
   rintro e w8 ⟨rfl, hbl8, hb⟩
   rw [← HR.out] at hbl8
   have HL := Aside0.mk hbl8
   have HBr := Aside0.mk (HB.trans (hb.mono hwz))
   have HZr := Aside0.mk (Nat.le_trans hz5 hb.size)
   clear hb hbl8 HB hb5 hz5 HS2
   go_wp2
   go_roundw
   case rel => exact ⟨k + 1, by go_num, by omega, HL, HBr, HZr⟩
   case measure => simp [intOf]; omega
  ·obtain rfl : k = l.length := by omega
   have k2 : (l.length : Int) ≤ (l.length : Int) := by omega
   have hb5 := hbl.out
   rw [List.take_length] at hb5
   have HB := hbr.out
   have hz5 := hzr.out
   clear hbl hbr hzr
   go_wp2_with fail
   refine (string_calls p p (putB l) wr hb5 hz5).mono ?_
   rintro e w8 ⟨rfl, hb⟩
   go_wp2
   go_ret2
   exact ⟨rfl, HB.trans (hb.mono hwz)⟩
/-- One step of the sum. -/
def fstep (h b : Int) : Int := IntKind.u64.wrap ((Go.bits .xor .u64 h (IntKind.u64.wrap b)) * 1099511628211)
def fnv (l : List Int) : Int := l.foldl fstep 14695981039346656037
def sumB (l : List Se) : Int := fnv (bytesOf (putB l))
set_option maxHeartbeats 4000000 in
set_option maxRecDepth 100000 in
theorem sum_calls (k0 : Nat) (l : List Se) (hl : l.length ≤ 40) (hm : digest_May.f k0 l = some true) (hz : ∀ x ∈ l, x.f0.size ≤ 9223372036854775807) (w : World) (v : Value) (h : Im kSe w v l) :
  Calls Try.prog 89 #[v] w fun e w' => e = .returned (.int .u64 (sumB l)) ∧ Below w.heap.size w w' := by
 have HP := Aside0.mk (put_calls k0 l hl hm hz w v h)
 have hs := putB_size l l.length
 have HS := Aside0.mk (show sumB l = fnv (bytesOf (putB l)) from rfl)
 have hs' : (putB l).size ≤ 5000 := by show (P (l.length : Int) ++ cat (l.map rowB)).size ≤ _; omega
 generalize sumB l = z at HS ⊢
 generalize putB l = s at HP HS hs'
 clear hm hz h hs hl
 go_enter Try.func89, Try.ntmps89
 have HB : Below w.heap.size w w := Below.refl _ _
 go_wp2_with fail
 refine HP.out.mono ?_
 rintro e w1 ⟨rfl, hb⟩
 replace HB := below_step HB hb
 clear hb HP
 have kb := print_bytes (P := Try.prog) 9 119 5 Try.underlying9 Try.underlying119 Try.underlying5 s w1
 have KR := Aside0.mk (show Kd.C (Kd.int .u8) (Lib.bytesWorld w1 5 s) (some ⟨w1.heap.size, 0, none⟩) s.size (bytesOf s) from Kd.C_of_reads (bytes_reads w1 5 s (by omega)))
 have HB2 := Aside0.mk (bytes_below HB HB.size 5 s)
 generalize Lib.bytesWorld w1 5 s = W at kb KR HB2
 generalize grownCap w1 s.size 0 5 = cp at kb
 generalize w1.heap.size = g at kb KR
 have hn := bytesOf_length s
 have hsi : (s.size : Int) ≤ 5000 := by omega
 have HN := Aside0.mk hn
 clear hn hs' HB
 have HI := Aside0.mk (show (14695981039346656037 : Int) = fnv ((bytesOf s).take 0) from rfl)
 have HB0 := Aside0.mk (Below.refl W.heap.size W)
 go_wp2
 go_loopw [5, 16] (fun h x wr => ∃ k : Nat, x = .int .i64 k ∧ k ≤ s.size ∧ h = .int .u64 (fnv ((bytesOf s).take k)) ∧ Aside0 (Below W.heap.size W wr)) (fun _ x _ => s.size - (intOf x).toNat)
 case atStart => exact ⟨0, rfl, Nat.zero_le _, rfl, HB0⟩
 case round =>
  clear HI HB0
  obtain ⟨k, rfl, hk, rfl, hbr⟩ := hrel
  have k0 : (0 : Int) ≤ (k : Int) := by omega
  have k1 : (k : Int) ≤ 5000 := by omega
  by_cases hlt : k < s.size
  ·have k2 : (k : Int) < (s.size : Int) := by omega
   have hlt2 : k < (bytesOf s).length := by have := HN.out; omega
   obtain ⟨ad, he, h0⟩ := Kd.at_int (Kd.C_below KR.out hbr.out) (k : Int) (by omega) (by omega)
   injection he with he
   subst he
   rw [Int.toNat_natCast, add_plain] at h0
   have hst : fnv ((bytesOf s).take (k + 1)) = fstep (fnv ((bytesOf s).take k)) (rd (bytesOf s) (k : Int)) := by
    unfold fnv
    rw [List.take_succ_eq_append_getElem hlt2, List.foldl_append]
    have : rd (bytesOf s) (k : Int) = (bytesOf s)[k] := by unfold rd; rw [Int.toNat_natCast]; exact getD_lt _ _ k hlt2
    rw [this]
    rfl
   have HST := Aside0.mk hst
   clear hst hlt2
   generalize rd (bytesOf s) (k : Int) = b at h0 HST
   generalize fnv ((bytesOf s).take k) = h at HST ⊢
   unfold fstep at HST
   go_wp2
   go_roundw
   case rel => exact ⟨k + 1, by go_num, by omega, by rw [HST.out], hbr⟩
   case measure => simp [intOf]; omega
  ·obtain rfl : k = s.size := by omega
   have k2 : (s.size : Int) ≤ (s.size : Int) := by omega
   have hz : fnv ((bytesOf s).take s.size) = z := by rw [← HN.out, List.take_length]; exact HS.out.symm
   rw [hz]
   have HBz := below_step HB2.out hbr.out
   go_wp2
   go_ret
   exact ⟨rfl, HBz⟩
end Go.Proofs.Ytmigglldahkngaa.XSum
end

section
-- Written by a program of this session (wip/tools/xprint.py), which drives the kit's print.
namespace Go.Proofs.Ytmigglldahkngaa.PA
open Go.RowKit Go.Proofs.YtmigglldahkngaaW.PrintWords Go.Proofs.YtmigglldahkngaaW.PrintLast Go.Proofs.YtmigglldahkngaaW.PrintMore Go.Proofs.Ytmigglldahkngaa.XQuiet
attribute [local go_sem] max2_int min2_int max_two min_two   -- for this text's walks alone
set_option linter.unusedVariables false
set_option linter.unusedSimpArgs false

/-! ### rollcallref18_May: function 16 -/
def rollcallref18_May.f (k : Nat) (a0_0 : Int) (a0_1 : Int) (a0_2 : Int) (a0_3 : Int) (a1_0 : Int) (l1_1 : List (S34)) (a1_2 : Bool) (a1_3 : Int) (a1_4 : Int) (a1_5 : Bool) (a1_6 : Int) : Option (Bool) := (rollcallref16_One.f a0_0 a0_1 a0_2 a0_3 a1_3 a1_4).bind fun t270 => (if t270 = true then (if a1_0 < 0 then (some false) else (if a1_0 > 1099511627776 then (some false) else ((rollcallref17_May.f k l1_1 a1_2 a0_0).bind fun t271 => (if t271 = true then (if a1_2 = true then (some false) else ((rollcallref16_Time.f a1_6).bind fun t272 => (if t272 = true then (if a1_5 = true then (some ((l1_1.length : Int) == 0)) else (some true)) else (some false)))) else (some false))))) else (some false))
set_option maxHeartbeats 8000000 in
set_option maxRecDepth 100000 in
theorem rollcallref18_May.calls (k : Nat) (c0 c1 c2 c3 s : Int) (A : Option Addr) (cc : Nat) (q : List (S34)) (lat : Bool) (tok at_ : Int) (sn : Bool) (dg : Int) (r : Bool) (w : World) (hr : Kd.C k34 w A q.length q) (hc : q.length ≤ cc) (h : rollcallref18_May.f k c0 c1 c2 c3 s q lat tok at_ sn dg = some r) :
  Calls Try.prog 16 #[.agg #[.int .i64 c0, .int .i64 c1, .int .i64 c2, .int .i64 c3], .agg #[.int .i64 s, .slice A q.length cc, .bool lat, .int .i64 tok, .int .i64 at_, .bool sn, .int .i64 dg]] w fun e w' => e = .returned (.bool r) ∧ Below w.heap.size w w' := by
 unfold rollcallref18_May.f at h
 have S := Go.Proofs.Ytmigglldahkngaa.XSt.Kn.start (fun _ => True) w
 replace S := S.arg (d := k34) (e := 0) (show Kd.V k34 0 w 0 (fun _ => True) (.slice A q.length cc) q from ⟨A, cc, rfl, hc, Kd.F_mono (Kd.C_F (show Kd.Heap k34 from ⟨fun _ hK => by obtain rfl := k34_open hK; exact k34_mk _ _⟩) hr) (fun _ _ => trivial)⟩)
 have hm63 : (q.length : Int) ≤ 9223372036854775807 := by have := hr.2.1; omega
 clear hr hc
 obtain ⟨w0, hw0⟩ : ∃ x : World, x = w := ⟨_, rfl⟩
 have HW := Aside0.mk hw0
 clear hw0
 go_enter Try.func16, Try.ntmps16
 go_upto_region 1 with (fail)
 generalize hg : World.alloc _ _ = w1
 replace S := S.new2 hg
 clear hg
 generalize w.heap.size + 1 = p3 at S ⊢
 generalize w.heap.size = p2 at S ⊢
 replace S : Go.Proofs.Ytmigglldahkngaa.XSt.Kn (fun _ => True) w [(p3, .cells #[.int .i64 s, .slice A q.length cc, .bool lat, .int .i64 tok, .int .i64 at_, .bool sn, .int .i64 dg] 30 (0, 0)), (p2, .cells #[.int .i64 c0, .int .i64 c1, .int .i64 c2, .int .i64 c3] 23 (0, 0))] Go.Proofs.Ytmigglldahkngaa.XSt.nil Go.Proofs.Ytmigglldahkngaa.XSt.tt [Go.Proofs.Ytmigglldahkngaa.XSt.V k34 (.slice A q.length cc) q] w1 := S
 have l_0 : w1.cell? ⟨p3, 0, none⟩ = some (.int .i64 s) := S.cell 0 0 rfl rfl
 have l_1 : w1.cell? ⟨p3, 1, none⟩ = some (.slice A q.length cc) := S.cell 0 1 rfl rfl
 have l_2 : w1.cell? ⟨p3, 2, none⟩ = some (.bool lat) := S.cell 0 2 rfl rfl
 have l_3 : w1.cell? ⟨p3, 3, none⟩ = some (.int .i64 tok) := S.cell 0 3 rfl rfl
 have l_4 : w1.cell? ⟨p3, 4, none⟩ = some (.int .i64 at_) := S.cell 0 4 rfl rfl
 have l_5 : w1.cell? ⟨p3, 5, none⟩ = some (.bool sn) := S.cell 0 5 rfl rfl
 have l_6 : w1.cell? ⟨p3, 6, none⟩ = some (.int .i64 dg) := S.cell 0 6 rfl rfl
 have c_0 : w1.cell? ⟨p2, 0, none⟩ = some (.int .i64 c0) := S.cell 1 0 rfl rfl
 have c_1 : w1.cell? ⟨p2, 1, none⟩ = some (.int .i64 c1) := S.cell 1 1 rfl rfl
 have c_2 : w1.cell? ⟨p2, 2, none⟩ = some (.int .i64 c2) := S.cell 1 2 rfl rfl
 have c_3 : w1.cell? ⟨p2, 3, none⟩ = some (.int .i64 c3) := S.cell 1 3 rfl rfl
 rcases hX : rollcallref16_One.f c0 c1 c2 c3 tok at_ with _ | b1
 ·rw [hX] at h; exact absurd h (by simp)
 rw [hX] at h
 simp only [Option.bind_some] at h
 have HX_b1 := Aside0.mk hX
 clear hX
 go_wp2_with fail
 refine (rollcallref16_One.calls c0 c1 c2 c3 tok at_ b1 _ HX_b1.out).mono ?_
 rintro e w2 ⟨rfl, hb⟩
 replace S := S.below (by first | exact hb | exact hb.below)
 clear l_0 l_1 l_2 l_3 l_4 l_5 l_6 c_0 c_1 c_2 c_3 hb
 have l_0 : w2.cell? ⟨p3, 0, none⟩ = some (.int .i64 s) := S.cell 0 0 rfl rfl
 have l_1 : w2.cell? ⟨p3, 1, none⟩ = some (.slice A q.length cc) := S.cell 0 1 rfl rfl
 have l_2 : w2.cell? ⟨p3, 2, none⟩ = some (.bool lat) := S.cell 0 2 rfl rfl
 have l_3 : w2.cell? ⟨p3, 3, none⟩ = some (.int .i64 tok) := S.cell 0 3 rfl rfl
 have l_4 : w2.cell? ⟨p3, 4, none⟩ = some (.int .i64 at_) := S.cell 0 4 rfl rfl
 have l_5 : w2.cell? ⟨p3, 5, none⟩ = some (.bool sn) := S.cell 0 5 rfl rfl
 have l_6 : w2.cell? ⟨p3, 6, none⟩ = some (.int .i64 dg) := S.cell 0 6 rfl rfl
 have c_0 : w2.cell? ⟨p2, 0, none⟩ = some (.int .i64 c0) := S.cell 1 0 rfl rfl
 have c_1 : w2.cell? ⟨p2, 1, none⟩ = some (.int .i64 c1) := S.cell 1 1 rfl rfl
 have c_2 : w2.cell? ⟨p2, 2, none⟩ = some (.int .i64 c2) := S.cell 1 2 rfl rfl
 have c_3 : w2.cell? ⟨p2, 3, none⟩ = some (.int .i64 c3) := S.cell 1 3 rfl rfl
 cases b1 with
 | false =>
  rw [if_neg (by simp)] at h
  obtain rfl := Option.some.inj h
  go_wp2
  go_ret
  exact ⟨rfl, S.bel⟩
 | true =>
  rw [if_pos rfl] at h
  by_cases e1 : s < 0
  ·rw [if_pos e1] at h
   obtain rfl := Option.some.inj h
   go_wp2
   go_ret
   exact ⟨rfl, S.bel⟩
  rw [if_neg e1] at h
  by_cases e2 : s > 1099511627776
  ·rw [if_pos e2] at h
   have e3 : (1099511627776 : Int) < s := e2
   have e4 : 0 ≤ s := by omega
   obtain rfl := Option.some.inj h
   go_wp2
   go_ret
   exact ⟨rfl, S.bel⟩
  rw [if_neg e2] at h
  have e1' : 0 ≤ s := by omega
  have e2' : s ≤ 1099511627776 := by omega
  clear e1 e2
  rcases hX : rollcallref17_May.f k q lat c0 with _ | b2
  ·rw [hX] at h; exact absurd h (by simp)
  rw [hX] at h
  simp only [Option.bind_some] at h
  have HX_b2 := Aside0.mk hX
  clear hX
  go_wp2_with fail
  refine (rollcallref17_May.calls k A cc q lat c0 b2 _ (Kd.V_reads' (e := 0) (base := 0) (S.ft 0 rfl)).2.2 (Kd.V_reads' (e := 0) (base := 0) (S.ft 0 rfl)).2.1 HX_b2.out).mono ?_
  rintro e w3 ⟨rfl, hb⟩
  replace S := S.below (by first | exact hb | exact hb.below)
  clear l_0 l_1 l_2 l_3 l_4 l_5 l_6 c_0 c_1 c_2 c_3 hb
  have l_0 : w3.cell? ⟨p3, 0, none⟩ = some (.int .i64 s) := S.cell 0 0 rfl rfl
  have l_1 : w3.cell? ⟨p3, 1, none⟩ = some (.slice A q.length cc) := S.cell 0 1 rfl rfl
  have l_2 : w3.cell? ⟨p3, 2, none⟩ = some (.bool lat) := S.cell 0 2 rfl rfl
  have l_3 : w3.cell? ⟨p3, 3, none⟩ = some (.int .i64 tok) := S.cell 0 3 rfl rfl
  have l_4 : w3.cell? ⟨p3, 4, none⟩ = some (.int .i64 at_) := S.cell 0 4 rfl rfl
  have l_5 : w3.cell? ⟨p3, 5, none⟩ = some (.bool sn) := S.cell 0 5 rfl rfl
  have l_6 : w3.cell? ⟨p3, 6, none⟩ = some (.int .i64 dg) := S.cell 0 6 rfl rfl
  have c_0 : w3.cell? ⟨p2, 0, none⟩ = some (.int .i64 c0) := S.cell 1 0 rfl rfl
  have c_1 : w3.cell? ⟨p2, 1, none⟩ = some (.int .i64 c1) := S.cell 1 1 rfl rfl
  have c_2 : w3.cell? ⟨p2, 2, none⟩ = some (.int .i64 c2) := S.cell 1 2 rfl rfl
  have c_3 : w3.cell? ⟨p2, 3, none⟩ = some (.int .i64 c3) := S.cell 1 3 rfl rfl
  cases b2 with
  | false =>
   rw [if_neg (by simp)] at h
   obtain rfl := Option.some.inj h
   go_wp2
   go_ret
   exact ⟨rfl, S.bel⟩
  | true =>
   rw [if_pos rfl] at h
   cases lat with
   | true =>
    rw [if_pos rfl] at h
    obtain rfl := Option.some.inj h
    go_wp2
    go_ret
    exact ⟨rfl, S.bel⟩
   | false =>
    rw [if_neg (by simp)] at h
    rcases hX : rollcallref16_Time.f dg with _ | b3
    ·rw [hX] at h; exact absurd h (by simp)
    rw [hX] at h
    simp only [Option.bind_some] at h
    have HX_b3 := Aside0.mk hX
    clear hX
    go_wp2_with fail
    refine (rollcallref16_Time.calls dg b3 _ HX_b3.out).mono ?_
    rintro e w4 ⟨rfl, hb⟩
    replace S := S.below (by first | exact hb | exact hb.below)
    clear l_0 l_1 l_2 l_3 l_4 l_5 l_6 c_0 c_1 c_2 c_3 hb
    have l_0 : w4.cell? ⟨p3, 0, none⟩ = some (.int .i64 s) := S.cell 0 0 rfl rfl
    have l_1 : w4.cell? ⟨p3, 1, none⟩ = some (.slice A q.length cc) := S.cell 0 1 rfl rfl
    have l_2 : w4.cell? ⟨p3, 2, none⟩ = some (.bool false) := S.cell 0 2 rfl rfl
    have l_3 : w4.cell? ⟨p3, 3, none⟩ = some (.int .i64 tok) := S.cell 0 3 rfl rfl
    have l_4 : w4.cell? ⟨p3, 4, none⟩ = some (.int .i64 at_) := S.cell 0 4 rfl rfl
    have l_5 : w4.cell? ⟨p3, 5, none⟩ = some (.bool sn) := S.cell 0 5 rfl rfl
    have l_6 : w4.cell? ⟨p3, 6, none⟩ = some (.int .i64 dg) := S.cell 0 6 rfl rfl
    have c_0 : w4.cell? ⟨p2, 0, none⟩ = some (.int .i64 c0) := S.cell 1 0 rfl rfl
    have c_1 : w4.cell? ⟨p2, 1, none⟩ = some (.int .i64 c1) := S.cell 1 1 rfl rfl
    have c_2 : w4.cell? ⟨p2, 2, none⟩ = some (.int .i64 c2) := S.cell 1 2 rfl rfl
    have c_3 : w4.cell? ⟨p2, 3, none⟩ = some (.int .i64 c3) := S.cell 1 3 rfl rfl
    cases b3 with
    | false =>
     rw [if_neg (by simp)] at h
     obtain rfl := Option.some.inj h
     go_wp2
     go_ret
     exact ⟨rfl, S.bel⟩
    | true =>
     rw [if_pos rfl] at h
     cases sn with
     | false =>
      rw [if_neg (by simp)] at h
      obtain rfl := Option.some.inj h
      go_wp2
      go_ret
      exact ⟨rfl, S.bel⟩
     | true =>
      rw [if_pos rfl] at h
      obtain rfl := Option.some.inj h
      go_wp2
      go_ret
      exact ⟨rfl, S.bel⟩
/-! ### rollcallref17_Empty: function 47 -/
def rollcallref17_Empty.f (l0_0 : List (S34)) (a0_1 : Bool) : Option (Bool) := if (l0_0.length : Int) = 0 then (some (!a0_1)) else (some false)
set_option maxHeartbeats 8000000 in
set_option maxRecDepth 100000 in
theorem rollcallref17_Empty.calls (A0_0 : Option Addr) (c0_0 : Nat) (l0_0 : List (S34)) (a0_1 : Bool) (r : Bool) (w : World) (hr0_0 : Kd.C k34 w A0_0 l0_0.length l0_0) (hc0_0 : l0_0.length ≤ c0_0) (h : rollcallref17_Empty.f l0_0 a0_1 = some r) :
  Calls Try.prog 47 #[.agg #[.slice A0_0 l0_0.length c0_0, .bool a0_1]] w fun e w' => e = .returned (.bool r) ∧ Below w.heap.size w w' := by
 have hu26 := Try.underlying26
 have HR0_0 := Aside0.mk hr0_0
 have HC0_0 := Aside0.mk hc0_0
 clear hr0_0 hc0_0
 have HB := Aside0.mk (Below.refl w.heap.size w)
 have H : (if (l0_0.length : Int) = 0 then (some (!a0_1)) else (some false)) = some r := h
 clear h
 by_cases c2 : (l0_0.length : Int) = 0
 ·rw [if_pos c2] at H
  have c2b0 : ((l0_0.length : Int) == 0) = true := beq_iff_eq.mpr c2
  have c2b1 : ((l0_0.length : Int) != 0) = false := bne_eq_false_iff_eq.mpr c2
  clear c2
  obtain rfl := Option.some.inj H
  go_enter Try.func47, Try.ntmps47
  go_wp2_with (first | ((with_reducible refine gate_dst (N := 1) rfl ?_); refine box_event ?hg (N := 1) ?hd (cs := #[.slice A0_0 l0_0.length c0_0, .bool a0_1]) (t := 26) ?hr ?_; (case hd => rfl); (case hg => rfl); (case hr => first | (go_simp; done) | (go_simp; rfl)); intro gb273 hg w3 hbox hb; have BK273 := Aside0.mk (hbox); have GW273 := Aside0.mk ((by rw [hg]; exact (below_size (hS HB.out)) : w.heap.size ≤ gb273)); have GE273 := Aside0.mk ((by rw [hg]; exact (below_size (hS HB.out)) : w.heap.size ≤ gb273)); replace HB := Aside0.mk (below_step (hS HB.out) hb); clear hb hbox hg; have hcz4_0 : w3.cell? ⟨gb273, 0, none⟩ = some (.slice A0_0 l0_0.length c0_0) := (blk_cell BK273.out 0).trans rfl; have hcz4_1 : w3.cell? ⟨gb273, 1, none⟩ = some (.bool a0_1) := (blk_cell BK273.out 1).trans rfl; have hfz4_0 := blk_frozen BK273.out 0; have hfz4_1 := blk_frozen BK273.out 1))
  go_ret
  exact ⟨by first | rfl | (simp [errW_none, errW_some] <;> rfl) | (simp [*, errW_none, errW_some] <;> rfl), by repeat (first | (with_reducible first | exact HB.out | apply below_alloc | apply pw_below_drewN | apply below_drew1 | refine below_set ?_ GE273.out) | exact HB.out)⟩
 ·rw [if_neg c2] at H
  have c2b0 : ((l0_0.length : Int) == 0) = false := beq_eq_false_iff_ne.mpr c2
  have c2b1 : ((l0_0.length : Int) != 0) = true := bne_iff_ne.mpr c2
  have c2b2 : ¬ (l0_0 = []) := fun h_ => c2 (by rw [h_]; rfl)
  obtain rfl := Option.some.inj H
  go_enter Try.func47, Try.ntmps47
  go_wp2_with (first | ((with_reducible refine gate_dst (N := 1) rfl ?_); refine box_event ?hg (N := 1) ?hd (cs := #[.slice A0_0 l0_0.length c0_0, .bool a0_1]) (t := 26) ?hr ?_; (case hd => rfl); (case hg => rfl); (case hr => first | (go_simp; done) | (go_simp; rfl)); intro gb273 hg w5 hbox hb; have BK273 := Aside0.mk (hbox); have GW273 := Aside0.mk ((by rw [hg]; exact (below_size (hS HB.out)) : w.heap.size ≤ gb273)); have GE273 := Aside0.mk ((by rw [hg]; exact (below_size (hS HB.out)) : w.heap.size ≤ gb273)); replace HB := Aside0.mk (below_step (hS HB.out) hb); clear hb hbox hg; have hcz6_0 : w5.cell? ⟨gb273, 0, none⟩ = some (.slice A0_0 l0_0.length c0_0) := (blk_cell BK273.out 0).trans rfl; have hcz6_1 : w5.cell? ⟨gb273, 1, none⟩ = some (.bool a0_1) := (blk_cell BK273.out 1).trans rfl; have hfz6_0 := blk_frozen BK273.out 0; have hfz6_1 := blk_frozen BK273.out 1))
  go_ret
  exact ⟨by first | rfl | (simp [errW_none, errW_some] <;> rfl) | (simp [*, errW_none, errW_some] <;> rfl), by repeat (first | (with_reducible first | exact HB.out | apply below_alloc | apply pw_below_drewN | apply below_drew1 | refine below_set ?_ GE273.out) | exact HB.out)⟩

/-! ### rollcallref18_Quiet: function 18 -/
def rollcallref18_Quiet.f (a0_0 : Int) (l0_1 : List (S34)) (a0_2 : Bool) (a0_3 : Int) (a0_4 : Int) (a0_5 : Bool) (a0_6 : Int) : Option (Bool) := if a0_5 = true then (some false) else ((rollcallref17_Empty.f l0_1 a0_2).bind fun t275 => (some t275))
set_option maxHeartbeats 8000000 in
set_option maxRecDepth 100000 in
theorem rollcallref18_Quiet.calls (a0_0 : Int) (A0_1 : Option Addr) (c0_1 : Nat) (l0_1 : List (S34)) (a0_2 : Bool) (a0_3 : Int) (a0_4 : Int) (a0_5 : Bool) (a0_6 : Int) (r : Bool) (w : World) (hr0_1 : Kd.C k34 w A0_1 l0_1.length l0_1) (hc0_1 : l0_1.length ≤ c0_1) (h : rollcallref18_Quiet.f a0_0 l0_1 a0_2 a0_3 a0_4 a0_5 a0_6 = some r) :
  Calls Try.prog 18 #[.agg #[.int .i64 a0_0, .slice A0_1 l0_1.length c0_1, .bool a0_2, .int .i64 a0_3, .int .i64 a0_4, .bool a0_5, .int .i64 a0_6]] w fun e w' => e = .returned (.bool r) ∧ Below w.heap.size w w' := by
 have hu30 := Try.underlying30
 have hu26 := Try.underlying26
 have HR0_1 := Aside0.mk hr0_1
 have HC0_1 := Aside0.mk hc0_1
 clear hr0_1 hc0_1
 have HB := Aside0.mk (Below.refl w.heap.size w)
 have H : (if a0_5 = true then (some false) else ((rollcallref17_Empty.f l0_1 a0_2).bind fun t275 => (some t275))) = some r := h
 clear h
 by_cases c2 : a0_5 = true
 ·subst c2
  have H1 : (some false) = some r := by rw [if_pos rfl] at H; exact H
  clear H
  have H := H1
  clear H1
  obtain rfl := Option.some.inj H
  go_enter Try.func18, Try.ntmps18
  go_wp2_with (first | ((with_reducible refine gate_dst (N := 1) rfl ?_); refine box_event ?hg (N := 1) ?hd (cs := #[.int .i64 a0_0, .slice A0_1 l0_1.length c0_1, .bool a0_2, .int .i64 a0_3, .int .i64 a0_4, .bool true, .int .i64 a0_6]) (t := 30) ?hr ?_; (case hd => rfl); (case hg => rfl); (case hr => first | (go_simp; done) | (go_simp; rfl)); intro gb274 hg w3 hbox hb; have BK274 := Aside0.mk (hbox); have GW274 := Aside0.mk ((by rw [hg]; exact (below_size (hS HB.out)) : w.heap.size ≤ gb274)); have GE274 := Aside0.mk ((by rw [hg]; exact (below_size (hS HB.out)) : w.heap.size ≤ gb274)); replace HB := Aside0.mk (below_step (hS HB.out) hb); clear hb hbox hg; have hcz4_0 : w3.cell? ⟨gb274, 0, none⟩ = some (.int .i64 a0_0) := (blk_cell BK274.out 0).trans rfl; have hcz4_1 : w3.cell? ⟨gb274, 1, none⟩ = some (.slice A0_1 l0_1.length c0_1) := (blk_cell BK274.out 1).trans rfl; have hcz4_2 : w3.cell? ⟨gb274, 2, none⟩ = some (.bool a0_2) := (blk_cell BK274.out 2).trans rfl; have hcz4_3 : w3.cell? ⟨gb274, 3, none⟩ = some (.int .i64 a0_3) := (blk_cell BK274.out 3).trans rfl; have hcz4_4 : w3.cell? ⟨gb274, 4, none⟩ = some (.int .i64 a0_4) := (blk_cell BK274.out 4).trans rfl; have hcz4_5 : w3.cell? ⟨gb274, 5, none⟩ = some (.bool true) := (blk_cell BK274.out 5).trans rfl; have hcz4_6 : w3.cell? ⟨gb274, 6, none⟩ = some (.int .i64 a0_6) := (blk_cell BK274.out 6).trans rfl; have hfz4_0 := blk_frozen BK274.out 0; have hfz4_1 := blk_frozen BK274.out 1; have hfz4_2 := blk_frozen BK274.out 2; have hfz4_3 := blk_frozen BK274.out 3; have hfz4_4 := blk_frozen BK274.out 4; have hfz4_5 := blk_frozen BK274.out 5; have hfz4_6 := blk_frozen BK274.out 6))
  go_ret
  exact ⟨by first | rfl | (simp [errW_none, errW_some] <;> rfl) | (simp [*, errW_none, errW_some] <;> rfl), by repeat (first | (with_reducible first | exact HB.out | apply below_alloc | apply pw_below_drewN | apply below_drew1 | refine below_set ?_ GE274.out) | exact HB.out)⟩
 ·replace c2 := Bool.eq_false_iff.mpr c2
  subst c2
  have H1 : ((rollcallref17_Empty.f l0_1 a0_2).bind fun t275 => (some t275)) = some r := by rw [if_neg (show ¬ (false = true) by decide)] at H; exact H
  clear H
  have H := H1
  clear H1
  replace H := Option.bind_eq_some_iff.mp H
  obtain ⟨t275, A50, H⟩ := H
  replace H : (some t275) = some r := H
  have A5 := Aside0.mk A50
  clear A50
  obtain rfl := Option.some.inj H
  go_enter Try.func18, Try.ntmps18
  go_wp2_with (first | ((with_reducible refine gate_dst (N := 1) rfl ?_); refine box_event ?hg (N := 1) ?hd (cs := #[.int .i64 a0_0, .slice A0_1 l0_1.length c0_1, .bool a0_2, .int .i64 a0_3, .int .i64 a0_4, .bool false, .int .i64 a0_6]) (t := 30) ?hr ?_; (case hd => rfl); (case hg => rfl); (case hr => first | (go_simp; done) | (go_simp; rfl)); intro gb274 hg w6 hbox hb; have BK274 := Aside0.mk (hbox); have GW274 := Aside0.mk ((by rw [hg]; exact (below_size (hS HB.out)) : w.heap.size ≤ gb274)); have GE274 := Aside0.mk ((by rw [hg]; exact (below_size (hS HB.out)) : w.heap.size ≤ gb274)); replace HB := Aside0.mk (below_step (hS HB.out) hb); clear hb hbox hg; have hcz7_0 : w6.cell? ⟨gb274, 0, none⟩ = some (.int .i64 a0_0) := (blk_cell BK274.out 0).trans rfl; have hcz7_1 : w6.cell? ⟨gb274, 1, none⟩ = some (.slice A0_1 l0_1.length c0_1) := (blk_cell BK274.out 1).trans rfl; have hcz7_2 : w6.cell? ⟨gb274, 2, none⟩ = some (.bool a0_2) := (blk_cell BK274.out 2).trans rfl; have hcz7_3 : w6.cell? ⟨gb274, 3, none⟩ = some (.int .i64 a0_3) := (blk_cell BK274.out 3).trans rfl; have hcz7_4 : w6.cell? ⟨gb274, 4, none⟩ = some (.int .i64 a0_4) := (blk_cell BK274.out 4).trans rfl; have hcz7_5 : w6.cell? ⟨gb274, 5, none⟩ = some (.bool false) := (blk_cell BK274.out 5).trans rfl; have hcz7_6 : w6.cell? ⟨gb274, 6, none⟩ = some (.int .i64 a0_6) := (blk_cell BK274.out 6).trans rfl; have hfz7_0 := blk_frozen BK274.out 0; have hfz7_1 := blk_frozen BK274.out 1; have hfz7_2 := blk_frozen BK274.out 2; have hfz7_3 := blk_frozen BK274.out 3; have hfz7_4 := blk_frozen BK274.out 4; have hfz7_5 := blk_frozen BK274.out 5; have hfz7_6 := blk_frozen BK274.out 6) | (go_at_call 47; (with_reducible refine (rollcallref17_Empty.calls _ _ l0_1 a0_2 t275 _ ?side1 ?side2 A5.out).mono ?_); (case side1 => repeat (first | exact (Kd.C_below HR0_1.out HB.out) | (with_reducible refine Kd.C_alloc ?_ _) | (with_reducible refine Kd.C_drewN ?_ _) | (with_reducible refine Kd.C_drew ?_))); (case side2 => exact HC0_1.out); rintro e w8 ⟨rfl, hb⟩; replace BK274 := Aside0.mk (blk_below (bS BK274.out) hb); replace HB := Aside0.mk (below_step (hS HB.out) hb); (try clear hb); (try clear hb2); (try clear hk); (try clear hi)))
  go_ret
  exact ⟨by first | rfl | (simp [errW_none, errW_some] <;> rfl) | (simp [*, errW_none, errW_some] <;> rfl), by repeat (first | (with_reducible first | exact HB.out | apply below_alloc | apply pw_below_drewN | apply below_drew1 | refine below_set ?_ GE274.out) | exact HB.out)⟩

/-! ### rollcallref18_Ask: function 22 -/
def rollcallref18_Ask.f (a0_0 : Int) (l0_1 : List (S34)) (a0_2 : Bool) (a0_3 : Int) (a0_4 : Int) (a0_5 : Bool) (a0_6 : Int) : Option (Int × (List (S34)) × Bool × Int × Int × Bool × Int) := some (a0_0, ([] : List (S34)), false, a0_3, a0_4, true, a0_6)
set_option maxHeartbeats 8000000 in
set_option maxRecDepth 100000 in
theorem rollcallref18_Ask.calls (a0_0 : Int) (A0_1 : Option Addr) (c0_1 : Nat) (l0_1 : List (S34)) (a0_2 : Bool) (a0_3 : Int) (a0_4 : Int) (a0_5 : Bool) (a0_6 : Int) (r1 : Int) (r2 : List (S34)) (r3 : Bool) (r4 : Int) (r5 : Int) (r6 : Bool) (r7 : Int) (w : World) (hr0_1 : Kd.C k34 w A0_1 l0_1.length l0_1) (hc0_1 : l0_1.length ≤ c0_1) (h : rollcallref18_Ask.f a0_0 l0_1 a0_2 a0_3 a0_4 a0_5 a0_6 = some (r1, r2, r3, r4, r5, r6, r7)) :
  Calls Try.prog 22 #[.agg #[.int .i64 a0_0, .slice A0_1 l0_1.length c0_1, .bool a0_2, .int .i64 a0_3, .int .i64 a0_4, .bool a0_5, .int .i64 a0_6]] w fun e w' => ∃ v1_ : Value, e = .returned (.agg #[.int .i64 r1, v1_, .bool r3, .int .i64 r4, .int .i64 r5, .bool r6, .int .i64 r7]) ∧ Kd.R k34 34 w' w.heap.size (fun _ => True) v1_ r2 ∧ Below w.heap.size w w' := by
 have hu30 := Try.underlying30
 have hu26 := Try.underlying26
 have HR0_1 := Aside0.mk hr0_1
 have HC0_1 := Aside0.mk hc0_1
 clear hr0_1 hc0_1
 have HB := Aside0.mk (Below.refl w.heap.size w)
 have H : (some (a0_0, ([] : List (S34)), false, a0_3, a0_4, true, a0_6)) = some (r1, r2, r3, r4, r5, r6, r7) := h
 clear h
 simp only [Option.some.injEq, Prod.mk.injEq] at H
 obtain ⟨rfl, rfl, rfl, rfl, rfl, rfl, rfl⟩ := H
 go_enter Try.func22, Try.ntmps22
 go_wp2_with (first | ((with_reducible refine gate_dst (N := 1) rfl ?_); refine box_event ?hg (N := 1) ?hd (cs := #[.int .i64 a0_0, .slice A0_1 l0_1.length c0_1, .bool a0_2, .int .i64 a0_3, .int .i64 a0_4, .bool a0_5, .int .i64 a0_6]) (t := 30) ?hr ?_; (case hd => rfl); (case hg => rfl); (case hr => first | (go_simp; done) | (go_simp; rfl)); intro gb276 hg w2 hbox hb; have BK276 := Aside0.mk (hbox); have GW276 := Aside0.mk ((by rw [hg]; exact (below_size (hS HB.out)) : w.heap.size ≤ gb276)); have GE276 := Aside0.mk ((by rw [hg]; exact (below_size (hS HB.out)) : w.heap.size ≤ gb276)); replace HB := Aside0.mk (below_step (hS HB.out) hb); clear hb hbox hg) | ((with_reducible refine gate_dst (N := 2) rfl ?_); refine box_event ?hg (N := 2) ?hd (cs := #[.int .i64 0, .slice none 0 0, .bool false, .int .i64 0, .int .i64 0, .bool false, .int .i64 0]) (t := 30) ?hr ?_; (case hd => rfl); (case hg => rfl); (case hr => first | (go_simp; done) | (go_simp; rfl)); intro gb277 hg w3 hbox hb; have BK277 := Aside0.mk (hbox); have GW277 := Aside0.mk ((by rw [hg]; exact (below_size (hS HB.out)) : w.heap.size ≤ gb277)); have GE277 := Aside0.mk ((by rw [hg]; exact (below_size (hS HB.out)) : w.heap.size ≤ gb277)); replace HB := Aside0.mk (below_step (hS HB.out) hb); have NB276_277 := Aside0.mk ((by rw [hg]; exact Nat.ne_of_lt (blk_lt (bS BK276.out)) : gb276 ≠ gb277)); have NB277_276 := Aside0.mk ((by rw [hg]; exact Nat.ne_of_gt (blk_lt (bS BK276.out)) : gb277 ≠ gb276)); replace BK276 := Aside0.mk (blk_below (bS BK276.out) hb); clear hb hbox hg; have hnb4 := NB276_277.out; have hnc4 := NB277_276.out; have hcz5_0 : w3.cell? ⟨gb276, 0, none⟩ = some (.int .i64 a0_0) := (blk_cell BK276.out 0).trans rfl; have hcz5_1 : w3.cell? ⟨gb276, 1, none⟩ = some (.slice A0_1 l0_1.length c0_1) := (blk_cell BK276.out 1).trans rfl; have hcz5_2 : w3.cell? ⟨gb276, 2, none⟩ = some (.bool a0_2) := (blk_cell BK276.out 2).trans rfl; have hcz5_3 : w3.cell? ⟨gb276, 3, none⟩ = some (.int .i64 a0_3) := (blk_cell BK276.out 3).trans rfl; have hcz5_4 : w3.cell? ⟨gb276, 4, none⟩ = some (.int .i64 a0_4) := (blk_cell BK276.out 4).trans rfl; have hcz5_5 : w3.cell? ⟨gb276, 5, none⟩ = some (.bool a0_5) := (blk_cell BK276.out 5).trans rfl; have hcz5_6 : w3.cell? ⟨gb276, 6, none⟩ = some (.int .i64 a0_6) := (blk_cell BK276.out 6).trans rfl; have hfz5_0 := blk_frozen BK276.out 0; have hfz5_1 := blk_frozen BK276.out 1; have hfz5_2 := blk_frozen BK276.out 2; have hfz5_3 := blk_frozen BK276.out 3; have hfz5_4 := blk_frozen BK276.out 4; have hfz5_5 := blk_frozen BK276.out 5; have hfz5_6 := blk_frozen BK276.out 6; have hcz6_0 : w3.cell? ⟨gb277, 0, none⟩ = some (.int .i64 0) := (blk_cell BK277.out 0).trans rfl; have hcz6_1 : w3.cell? ⟨gb277, 1, none⟩ = some (.slice none 0 0) := (blk_cell BK277.out 1).trans rfl; have hcz6_2 : w3.cell? ⟨gb277, 2, none⟩ = some (.bool false) := (blk_cell BK277.out 2).trans rfl; have hcz6_3 : w3.cell? ⟨gb277, 3, none⟩ = some (.int .i64 0) := (blk_cell BK277.out 3).trans rfl; have hcz6_4 : w3.cell? ⟨gb277, 4, none⟩ = some (.int .i64 0) := (blk_cell BK277.out 4).trans rfl; have hcz6_5 : w3.cell? ⟨gb277, 5, none⟩ = some (.bool false) := (blk_cell BK277.out 5).trans rfl; have hcz6_6 : w3.cell? ⟨gb277, 6, none⟩ = some (.int .i64 0) := (blk_cell BK277.out 6).trans rfl; have hfz6_0 := blk_frozen BK277.out 0; have hfz6_1 := blk_frozen BK277.out 1; have hfz6_2 := blk_frozen BK277.out 2; have hfz6_3 := blk_frozen BK277.out 3; have hfz6_4 := blk_frozen BK277.out 4; have hfz6_5 := blk_frozen BK277.out 5; have hfz6_6 := blk_frozen BK277.out 6))
 refine bodyPost_ret (results_cell_row rfl _ _ gb277 30 #[.int .i64 a0_0, .slice none 0 0, .bool false, .int .i64 a0_3, .int .i64 a0_4, .bool true, .int .i64 a0_6] (0, 0) _ rfl (bS (blk_put (bS (blk_put (bS (blk_put (bS (blk_put (bS (blk_put (bS (blk_put (bS (blk_put (bF (BK277.out) NB277_276.out) 0 _ rfl)) 1 _ rfl)) 2 _ rfl)) 3 _ rfl)) 4 _ rfl)) 5 _ rfl)) 6 _ rfl)) Try.underlying30 rfl (by kernel_rfl)) rfl ?_
 exact ⟨_, by first | rfl | (simp [errW_none, errW_some] <;> rfl) | (simp [*, errW_none, errW_some] <;> rfl), by first | exact Kd.R_nil _ _ _ _ _ | exact Kd.N_nil _ _ _ _ _ | exact Kd.V_nil _ _ _ _ _ | exact Kd.Q_nil _ _ _ _ _ | exact Kd.S_nil _ _ _ _ _, by repeat (first | (with_reducible first | exact HB.out | apply below_alloc | apply pw_below_drewN | apply below_drew1 | refine below_set ?_ GE276.out | refine below_set ?_ GE277.out) | exact HB.out)⟩

/-! ### rollcallref17_Push: function 49 -/
def rollcallref17_Push.f (k : Nat) (l0_0 : List (S34)) (a0_1 : Bool) (a1_0 : ByteArray) (a1_1 : Bool) (a1_2 : Int) (a1_3 : Int) (a1_4 : Int) (a1_5 : ByteArray) (a2 : Int) : Option ((List (S34)) × Bool) := if a0_1 = true then (some (l0_0, a0_1)) else ((some (([] : List (S34)) : List (S34))).bind fun y281 => (if y281.length + l0_0.length < 2199023255552 then ((some (y281 ++ l0_0 : List (S34))).bind fun y284 => ((rollcallref17_place.f k l0_0 a0_1 a1_0).bind fun t287 => (if t287 ≥ 0 then (if 0 ≤ t287 then (if t287 < (y284.length : Int) then (some ((y284.set (t287 : Int).toNat (⟨a1_0, a1_1, (⟨a1_2, a1_3, a1_4, a1_5⟩ : S32)⟩ : S34)), false)) else (none)) else (none)) else (if (y284.length : Int) < a2 then (if y284.length < 2199023255552 then (some ((y284 ++ [(⟨a1_0, a1_1, (⟨a1_2, a1_3, a1_4, a1_5⟩ : S32)⟩ : S34)]), false)) else (none)) else (some (([] : List (S34)), true)))))) else (none)))
set_option maxHeartbeats 8000000 in
set_option maxRecDepth 100000 in
theorem rollcallref17_Push.calls (k : Nat) (P0_0_ : Nat → Prop) (A0_0 : Option Addr) (c0_0 : Nat) (l0_0 : List (S34)) (a0_1 : Bool) (a1_0 : ByteArray) (a1_1 : Bool) (a1_2 : Int) (a1_3 : Int) (a1_4 : Int) (a1_5 : ByteArray) (a2 : Int) (r1 : List (S34)) (r2 : Bool) (w : World) (hs0_0 : Kd.V k34 34 w w.heap.size (fun k_ => P0_0_ k_) (.slice A0_0 l0_0.length c0_0) l0_0) (h : rollcallref17_Push.f k l0_0 a0_1 a1_0 a1_1 a1_2 a1_3 a1_4 a1_5 a2 = some (r1, r2)) :
  Calls Try.prog 49 #[.agg #[.slice A0_0 l0_0.length c0_0, .bool a0_1], .agg #[.string a1_0, .bool a1_1, .int .i64 a1_2, .int .i64 a1_3, .int .i64 a1_4, .string a1_5], .int .i64 a2] w fun e w' => ∃ v0_ : Value, e = .returned (.agg #[v0_, .bool r2]) ∧ Kd.V k34 34 w' w.heap.size (fun k_ => (P0_0_ k_ ∨ w.heap.size ≤ k_)) v0_ r1 ∧ Below w.heap.size w w' := by
 have hu26 := Try.underlying26
 have hu34 := Try.underlying34
 have HO0_0 := Aside0.mk (show Kd.V k34 34 w w.heap.size (fun k_ => (P0_0_ k_ ∨ w.heap.size ≤ k_)) (.slice A0_0 l0_0.length c0_0) l0_0 from Kd.V_mono hs0_0 (fun k_ hk => .inl hk))
 have HB := Aside0.mk (Below.refl w.heap.size w)
 have H : (if a0_1 = true then (some (l0_0, a0_1)) else ((some (([] : List (S34)) : List (S34))).bind fun y281 => (if y281.length + l0_0.length < 2199023255552 then ((some (y281 ++ l0_0 : List (S34))).bind fun y284 => ((rollcallref17_place.f k l0_0 a0_1 a1_0).bind fun t287 => (if t287 ≥ 0 then (if 0 ≤ t287 then (if t287 < (y284.length : Int) then (some ((y284.set (t287 : Int).toNat (⟨a1_0, a1_1, (⟨a1_2, a1_3, a1_4, a1_5⟩ : S32)⟩ : S34)), false)) else (none)) else (none)) else (if (y284.length : Int) < a2 then (if y284.length < 2199023255552 then (some ((y284 ++ [(⟨a1_0, a1_1, (⟨a1_2, a1_3, a1_4, a1_5⟩ : S32)⟩ : S34)]), false)) else (none)) else (some (([] : List (S34)), true)))))) else (none)))) = some (r1, r2) := h
 clear h
 by_cases c4 : a0_1 = true
 ·subst c4
  have H1 : (some (l0_0, true)) = some (r1, r2) := by rw [if_pos rfl] at H; exact H
  clear H
  have H := H1
  clear H1
  simp only [Option.some.injEq, Prod.mk.injEq] at H
  obtain ⟨rfl, rfl⟩ := H
  go_enter Try.func49, Try.ntmps49
  go_wp2_with (first | ((with_reducible refine gate_dst (N := 3) rfl ?_); refine box_event ?hg (N := 3) ?hd (cs := #[.slice A0_0 l0_0.length c0_0, .bool true]) (t := 26) ?hr ?_; (case hd => rfl); (case hg => rfl); (case hr => first | (go_simp; done) | (go_simp; rfl)); intro gb278 hg w5 hbox hb; replace HO0_0 := Aside0.mk (Kd.V_below (Kd.V_elderB (vS HO0_0.out) gb278 (Nat.le_of_eq hg.symm)) hb); have BK278 := Aside0.mk (hbox); have GW278 := Aside0.mk ((by rw [hg]; exact (below_size (hS HB.out)) : w.heap.size ≤ gb278)); have GE278 := Aside0.mk ((by rw [hg]; exact (below_size (hS HB.out)) : w.heap.size ≤ gb278)); replace HB := Aside0.mk (below_step (hS HB.out) hb); clear hb hbox hg) | ((with_reducible refine gate_dst (N := 4) rfl ?_); refine box_event ?hg (N := 4) ?hd (cs := #[.string a1_0, .bool a1_1, .int .i64 a1_2, .int .i64 a1_3, .int .i64 a1_4, .string a1_5]) (t := 34) ?hr ?_; (case hd => rfl); (case hg => rfl); (case hr => first | (go_simp; done) | (go_simp; rfl)); intro gb279 hg w6 hbox hb; replace HO0_0 := Aside0.mk (Kd.V_below (Kd.V_elderB (vS HO0_0.out) gb279 (Nat.le_of_eq hg.symm)) hb); have BK279 := Aside0.mk (hbox); have GW279 := Aside0.mk ((by rw [hg]; exact (below_size (hS HB.out)) : w.heap.size ≤ gb279)); have GE279 := Aside0.mk ((by rw [hg]; exact (below_size (hS HB.out)) : w.heap.size ≤ gb279)); replace HB := Aside0.mk (below_step (hS HB.out) hb); have NB278_279 := Aside0.mk ((by rw [hg]; exact Nat.ne_of_lt (blk_lt (bS BK278.out)) : gb278 ≠ gb279)); have NB279_278 := Aside0.mk ((by rw [hg]; exact Nat.ne_of_gt (blk_lt (bS BK278.out)) : gb279 ≠ gb278)); replace BK278 := Aside0.mk (blk_below (bS BK278.out) hb); clear hb hbox hg) | ((with_reducible refine gate_dst (N := 6) rfl ?_); refine box_event ?hg (N := 6) ?hd (cs := #[.slice none 0 0, .bool false]) (t := 26) ?hr ?_; (case hd => rfl); (case hg => rfl); (case hr => first | (go_simp; done) | (go_simp; rfl)); intro gb280 hg w7 hbox hb; replace HO0_0 := Aside0.mk (Kd.V_below (Kd.V_elderB (vS HO0_0.out) gb280 (Nat.le_of_eq hg.symm)) hb); have BK280 := Aside0.mk (hbox); have GW280 := Aside0.mk ((by rw [hg]; exact (below_size (hS HB.out)) : w.heap.size ≤ gb280)); have GE280 := Aside0.mk ((by rw [hg]; exact (below_size (hS HB.out)) : w.heap.size ≤ gb280)); replace HB := Aside0.mk (below_step (hS HB.out) hb); have NB278_280 := Aside0.mk ((by rw [hg]; exact Nat.ne_of_lt (blk_lt (bS BK278.out)) : gb278 ≠ gb280)); have NB280_278 := Aside0.mk ((by rw [hg]; exact Nat.ne_of_gt (blk_lt (bS BK278.out)) : gb280 ≠ gb278)); replace BK278 := Aside0.mk (blk_below (bS BK278.out) hb); have NB279_280 := Aside0.mk ((by rw [hg]; exact Nat.ne_of_lt (blk_lt (bS BK279.out)) : gb279 ≠ gb280)); have NB280_279 := Aside0.mk ((by rw [hg]; exact Nat.ne_of_gt (blk_lt (bS BK279.out)) : gb280 ≠ gb279)); replace BK279 := Aside0.mk (blk_below (bS BK279.out) hb); clear hb hbox hg; have hnb8 := NB278_279.out; have hnc8 := NB279_278.out; have hnb9 := NB278_280.out; have hnc9 := NB280_278.out; have hcz10_0 : w7.cell? ⟨gb278, 0, none⟩ = some (.slice A0_0 l0_0.length c0_0) := (blk_cell BK278.out 0).trans rfl; have hcz10_1 : w7.cell? ⟨gb278, 1, none⟩ = some (.bool true) := (blk_cell BK278.out 1).trans rfl; have hfz10_0 := blk_frozen BK278.out 0; have hfz10_1 := blk_frozen BK278.out 1; have hnb11 := NB280_279.out; have hnc11 := NB279_280.out; have hcz12_0 : w7.cell? ⟨gb280, 0, none⟩ = some (.slice none 0 0) := (blk_cell BK280.out 0).trans rfl; have hcz12_1 : w7.cell? ⟨gb280, 1, none⟩ = some (.bool false) := (blk_cell BK280.out 1).trans rfl; have hfz12_0 := blk_frozen BK280.out 0; have hfz12_1 := blk_frozen BK280.out 1))
  refine bodyPost_ret (results_cell_row rfl _ _ gb280 26 #[.slice A0_0 l0_0.length c0_0, .bool true] (0, 0) _ rfl (bS (blk_put (bS (blk_put (bS BK280.out) 0 _ rfl)) 1 _ rfl)) Try.underlying26 rfl (by kernel_rfl)) rfl ?_
  exact ⟨_, by first | rfl | (simp [errW_none, errW_some] <;> rfl) | (simp [*, errW_none, errW_some] <;> rfl), by (with_reducible repeat (first | apply Kd.V_alloc | apply Kd.V_drewN | apply Kd.V_drew)); exact Kd.V_mono (vF (b := gb280) (Kd.V_mono HO0_0.out (fun k_ hk => (⟨hk, hk.2⟩ : _ ∧ k_ ≠ gb280))) (fun _ hk => hk.2)) (fun _ hk => hk.1.1.1.1), by repeat (first | (with_reducible first | exact HB.out | apply below_alloc | apply pw_below_drewN | apply below_drew1 | refine below_set ?_ GE278.out | refine below_set ?_ GE279.out | refine below_set ?_ GE280.out) | exact HB.out)⟩
 ·replace c4 := Bool.eq_false_iff.mpr c4
  subst c4
  have H1 : ((some (([] : List (S34)) : List (S34))).bind fun y281 => (if y281.length + l0_0.length < 2199023255552 then ((some (y281 ++ l0_0 : List (S34))).bind fun y284 => ((rollcallref17_place.f k l0_0 false a1_0).bind fun t287 => (if t287 ≥ 0 then (if 0 ≤ t287 then (if t287 < (y284.length : Int) then (some ((y284.set (t287 : Int).toNat (⟨a1_0, a1_1, (⟨a1_2, a1_3, a1_4, a1_5⟩ : S32)⟩ : S34)), false)) else (none)) else (none)) else (if (y284.length : Int) < a2 then (if y284.length < 2199023255552 then (some ((y284 ++ [(⟨a1_0, a1_1, (⟨a1_2, a1_3, a1_4, a1_5⟩ : S32)⟩ : S34)]), false)) else (none)) else (some (([] : List (S34)), true)))))) else (none))) = some (r1, r2) := by rw [if_neg (show ¬ (false = true) by decide)] at H; exact H
  clear H
  have H := H1
  clear H1
  obtain ⟨y281, hy281⟩ : ∃ y_ : List (S34), y_ = (([] : List (S34))) := ⟨_, rfl⟩
  replace H : (if y281.length + l0_0.length < 2199023255552 then ((some (y281 ++ l0_0 : List (S34))).bind fun y284 => ((rollcallref17_place.f k l0_0 false a1_0).bind fun t287 => (if t287 ≥ 0 then (if 0 ≤ t287 then (if t287 < (y284.length : Int) then (some ((y284.set (t287 : Int).toNat (⟨a1_0, a1_1, (⟨a1_2, a1_3, a1_4, a1_5⟩ : S32)⟩ : S34)), false)) else (none)) else (none)) else (if (y284.length : Int) < a2 then (if y284.length < 2199023255552 then (some ((y284 ++ [(⟨a1_0, a1_1, (⟨a1_2, a1_3, a1_4, a1_5⟩ : S32)⟩ : S34)]), false)) else (none)) else (some (([] : List (S34)), true)))))) else (none)) = some (r1, r2) := by first | (rw [hy281]; with_reducible exact H) | (have H2_ := (Option.bind_some _ _).symm.trans H; rw [hy281]; with_reducible exact H2_) | (have H2_ := (Option.bind_some _ _).symm.trans H; with_reducible exact H2_) | with_reducible exact H | (rw [hy281]; exact H) | exact H
  have Ny281 := Aside0.mk hy281
  clear hy281
  by_cases c13 : y281.length + l0_0.length < 2199023255552
  ·rw [if_pos c13] at H
   have LMc13 := Aside0.mk c13
   clear c13
   obtain ⟨y284, hy284⟩ : ∃ y_ : List (S34), y_ = (y281 ++ l0_0) := ⟨_, rfl⟩
   replace H : ((rollcallref17_place.f k l0_0 false a1_0).bind fun t287 => (if t287 ≥ 0 then (if 0 ≤ t287 then (if t287 < (y284.length : Int) then (some ((y284.set (t287 : Int).toNat (⟨a1_0, a1_1, (⟨a1_2, a1_3, a1_4, a1_5⟩ : S32)⟩ : S34)), false)) else (none)) else (none)) else (if (y284.length : Int) < a2 then (if y284.length < 2199023255552 then (some ((y284 ++ [(⟨a1_0, a1_1, (⟨a1_2, a1_3, a1_4, a1_5⟩ : S32)⟩ : S34)]), false)) else (none)) else (some (([] : List (S34)), true))))) = some (r1, r2) := by first | (rw [hy284]; with_reducible exact H) | (have H2_ := (Option.bind_some _ _).symm.trans H; rw [hy284]; with_reducible exact H2_) | (have H2_ := (Option.bind_some _ _).symm.trans H; with_reducible exact H2_) | with_reducible exact H | (rw [hy284]; exact H) | exact H
   have Ny284 := Aside0.mk hy284
   clear hy284
   replace H := Option.bind_eq_some_iff.mp H
   obtain ⟨t287, A140, H⟩ := H
   replace H : (if t287 ≥ 0 then (if 0 ≤ t287 then (if t287 < (y284.length : Int) then (some ((y284.set (t287 : Int).toNat (⟨a1_0, a1_1, (⟨a1_2, a1_3, a1_4, a1_5⟩ : S32)⟩ : S34)), false)) else (none)) else (none)) else (if (y284.length : Int) < a2 then (if y284.length < 2199023255552 then (some ((y284 ++ [(⟨a1_0, a1_1, (⟨a1_2, a1_3, a1_4, a1_5⟩ : S32)⟩ : S34)]), false)) else (none)) else (some (([] : List (S34)), true)))) = some (r1, r2) := H
   have A14 := Aside0.mk A140
   clear A140
   by_cases c15 : t287 ≥ 0
   ·rw [if_pos c15] at H
    have c15b0 : decide (0 ≤ t287) = true := decide_eq_true c15
    clear c15
    by_cases c16 : 0 ≤ t287
    ·rw [if_pos c16] at H
     have c16b0 : decide (0 ≤ t287) = true := decide_eq_true c16
     clear c16
     by_cases c17 : t287 < (y284.length : Int)
     ·rw [if_pos c17] at H
      have c17b0 : decide (t287 < (y284.length : Int)) = true := decide_eq_true c17
      clear c17
      obtain ⟨y288, hy288⟩ : ∃ y_ : List (S34), y_ = (y284.set (t287 : Int).toNat (⟨a1_0, a1_1, (⟨a1_2, a1_3, a1_4, a1_5⟩ : S32)⟩ : S34)) := ⟨_, rfl⟩
      replace H : (some (y288, false)) = some (r1, r2) := by first | (rw [hy288]; with_reducible exact H) | (have H2_ := (Option.bind_some _ _).symm.trans H; rw [hy288]; with_reducible exact H2_) | (have H2_ := (Option.bind_some _ _).symm.trans H; with_reducible exact H2_) | with_reducible exact H | (rw [hy288]; exact H) | exact H
      have Ny288 := Aside0.mk hy288
      clear hy288
      simp only [Option.some.injEq, Prod.mk.injEq] at H
      obtain ⟨rfl, rfl⟩ := H
      go_enter Try.func49, Try.ntmps49
      go_wp2_with (first | ((with_reducible refine gate_dst (N := 3) rfl ?_); refine box_event ?hg (N := 3) ?hd (cs := #[.slice A0_0 l0_0.length c0_0, .bool false]) (t := 26) ?hr ?_; (case hd => rfl); (case hg => rfl); (case hr => first | (go_simp; done) | (go_simp; rfl)); intro gb278 hg w19 hbox hb; replace HO0_0 := Aside0.mk (Kd.V_below (Kd.V_elderB (vS HO0_0.out) gb278 (Nat.le_of_eq hg.symm)) hb); have BK278 := Aside0.mk (hbox); have GW278 := Aside0.mk ((by rw [hg]; exact (below_size (hS HB.out)) : w.heap.size ≤ gb278)); have GE278 := Aside0.mk ((by rw [hg]; exact (below_size (hS HB.out)) : w.heap.size ≤ gb278)); replace HB := Aside0.mk (below_step (hS HB.out) hb); clear hb hbox hg) | ((with_reducible refine gate_dst (N := 4) rfl ?_); refine box_event ?hg (N := 4) ?hd (cs := #[.string a1_0, .bool a1_1, .int .i64 a1_2, .int .i64 a1_3, .int .i64 a1_4, .string a1_5]) (t := 34) ?hr ?_; (case hd => rfl); (case hg => rfl); (case hr => first | (go_simp; done) | (go_simp; rfl)); intro gb279 hg w20 hbox hb; replace HO0_0 := Aside0.mk (Kd.V_below (Kd.V_elderB (vS HO0_0.out) gb279 (Nat.le_of_eq hg.symm)) hb); have BK279 := Aside0.mk (hbox); have GW279 := Aside0.mk ((by rw [hg]; exact (below_size (hS HB.out)) : w.heap.size ≤ gb279)); have GE279 := Aside0.mk ((by rw [hg]; exact (below_size (hS HB.out)) : w.heap.size ≤ gb279)); replace HB := Aside0.mk (below_step (hS HB.out) hb); have NB278_279 := Aside0.mk ((by rw [hg]; exact Nat.ne_of_lt (blk_lt (bS BK278.out)) : gb278 ≠ gb279)); have NB279_278 := Aside0.mk ((by rw [hg]; exact Nat.ne_of_gt (blk_lt (bS BK278.out)) : gb279 ≠ gb278)); replace BK278 := Aside0.mk (blk_below (bS BK278.out) hb); clear hb hbox hg) | ((with_reducible refine gate_dst (N := 6) rfl ?_); refine box_event ?hg (N := 6) ?hd (cs := #[.slice none 0 0, .bool false]) (t := 26) ?hr ?_; (case hd => rfl); (case hg => rfl); (case hr => first | (go_simp; done) | (go_simp; rfl)); intro gb280 hg w21 hbox hb; replace HO0_0 := Aside0.mk (Kd.V_below (Kd.V_elderB (vS HO0_0.out) gb280 (Nat.le_of_eq hg.symm)) hb); have BK280 := Aside0.mk (hbox); have GW280 := Aside0.mk ((by rw [hg]; exact (below_size (hS HB.out)) : w.heap.size ≤ gb280)); have GE280 := Aside0.mk ((by rw [hg]; exact (below_size (hS HB.out)) : w.heap.size ≤ gb280)); replace HB := Aside0.mk (below_step (hS HB.out) hb); have NB278_280 := Aside0.mk ((by rw [hg]; exact Nat.ne_of_lt (blk_lt (bS BK278.out)) : gb278 ≠ gb280)); have NB280_278 := Aside0.mk ((by rw [hg]; exact Nat.ne_of_gt (blk_lt (bS BK278.out)) : gb280 ≠ gb278)); replace BK278 := Aside0.mk (blk_below (bS BK278.out) hb); have NB279_280 := Aside0.mk ((by rw [hg]; exact Nat.ne_of_lt (blk_lt (bS BK279.out)) : gb279 ≠ gb280)); have NB280_279 := Aside0.mk ((by rw [hg]; exact Nat.ne_of_gt (blk_lt (bS BK279.out)) : gb280 ≠ gb279)); replace BK279 := Aside0.mk (blk_below (bS BK279.out) hb); clear hb hbox hg; have hnb22 := NB278_279.out; have hnc22 := NB279_278.out; have hnb23 := NB278_280.out; have hnc23 := NB280_278.out; have hcz24_0 : w21.cell? ⟨gb278, 0, none⟩ = some (.slice A0_0 l0_0.length c0_0) := (blk_cell BK278.out 0).trans rfl; have hcz24_1 : w21.cell? ⟨gb278, 1, none⟩ = some (.bool false) := (blk_cell BK278.out 1).trans rfl; have hfz24_0 := blk_frozen BK278.out 0; have hfz24_1 := blk_frozen BK278.out 1) | ((with_reducible refine gate_dst (N := 12) rfl ?_); refine Kd.R_lit k34 _ 34 ?hg (N := 12) ?hd (xs := ([] : List (S34))) (inner := []) (ok := fun _ => True) (okp := fun _ => True) ?hr ?hp (fun _ hk => hk) trivial (Below.refl _ _) (Nat.le_refl _) (by simp) ?_; (case hd => rfl); (case hg => rfl); (case hr => first | (go_simp; done) | (go_simp; rfl)); (case hp => exact (Reps.none _ _)); intro v282 w25 ho26 hb hg_ hnew_; clear hg_ hnew_; (first | rw [← Ny281.out] at ho26 | (simp only [Int.reduceToNat] at ho26; rw [← Ny281.out] at ho26)); replace HO0_0 := Aside0.mk (Kd.V_elder' (vS HO0_0.out) (Kd.R_base ho26) hb); have HO283 := Aside0.mk (Kd.R_lower (Kd.R_newB (Kd.R_newM (M := fun k_ => (w.heap.size ≤ k_)) ho26 (below_size (hS HB.out)) (fun k_ h_ => h_)) (bS BK279.out)) (below_size (hS HB.out))); replace BK278 := Aside0.mk (blk_below (bS BK278.out) hb); replace BK279 := Aside0.mk (blk_below (bS BK279.out) hb); replace BK280 := Aside0.mk (blk_below (bS BK280.out) hb); replace HB := Aside0.mk (below_step (hS HB.out) hb); clear hb ho26; have hcz27_0 : w25.cell? ⟨gb278, 0, none⟩ = some (.slice A0_0 l0_0.length c0_0) := (blk_cell BK278.out 0).trans rfl; have hcz27_1 : w25.cell? ⟨gb278, 1, none⟩ = some (.bool false) := (blk_cell BK278.out 1).trans rfl; have hfz27_0 := blk_frozen BK278.out 0; have hfz27_1 := blk_frozen BK278.out 1) | ((with_reducible refine gate_builtin (b := .append) (xs := #[.tmp 12, .tmp 14]) rfl ?_); at_builtin; refine Kd.R_append_rows k34 (w0 := w) w.heap.size rfl (.tmp 12) (.tmp 14) 24 34 (.agg #[(.string ⟨#[]⟩), (.bool false), (.int .i64 0), (.int .i64 0), (.int .i64 0), (.string ⟨#[]⟩)]) 64 rfl Try.underlying24 info34 rfl (by decide) (by omega) v282 y281 l0_0 _ _ _ (fun k_ => (w.heap.size ≤ k_) ∧ k_ ≠ gb279) (fun _ => False) rfl rfl ?aO ?aR (fun _ _ h => h) (fun _ h => h.elim) ?aF ?aB ?aS ?aL ?_; (case aR => repeat (first | exact (Kd.V_reads' HO0_0.out).2.2 | (with_reducible refine Kd.C_alloc ?_ _) | (with_reducible refine Kd.C_drewN ?_ _) | (with_reducible refine Kd.C_drew ?_))); (case aB => exact (hS HB.out)); (case aF => exact (fun k_ hk => ⟨(Nat.le_trans (below_size (hS HB.out)) hk), Kd.freshB (bS BK279.out) k_ hk⟩)); (case aO => exact (by (with_reducible repeat (first | apply Kd.R_alloc | apply Kd.R_drewN | apply Kd.R_drew)); exact Kd.R_mono HO283.out (fun _ hk => ⟨hk.1.1, hk.2⟩))); (case aS => exact (below_size (hS HB.out))); (case aL => have := LMc13.out; omega); intro v285 w28 ho hb hg hat; rw [← Ny284.out] at ho; replace HO0_0 := Aside0.mk (Kd.V_afterv (ok := (fun k_ => (P0_0_ k_ ∨ w.heap.size ≤ k_) ∧ k_ ≠ gb278 ∧ k_ ≠ gb279 ∧ k_ ≠ gb280)) (by (with_reducible repeat (first | apply Kd.V_alloc | apply Kd.V_drewN | apply Kd.V_drew)); exact Kd.V_mono HO0_0.out (fun _ hk => ⟨⟨hk.1.1.1.1, ⟨hk.1.1.1.2, ⟨hk.1.1.2, hk.1.2⟩⟩⟩, hk.2⟩)) hg hat); replace BK278 := Aside0.mk (blk_grown (bS BK278.out) hg (Kd.R_ne HO283.out BK278.out (by decide))); replace BK279 := Aside0.mk (blk_grown (bS BK279.out) hg (Kd.R_away HO283.out (fun _ hk => hk.2))); replace BK280 := Aside0.mk (blk_grown (bS BK280.out) hg (Kd.R_ne HO283.out BK280.out (by decide))); replace HB := Aside0.mk (hb); have HO286 := Aside0.mk (ho); clear HO283; clear ho hb hg hat; have hcz29_0 : w28.cell? ⟨gb278, 0, none⟩ = some (.slice A0_0 l0_0.length c0_0) := (blk_cell BK278.out 0).trans rfl; have hcz29_1 : w28.cell? ⟨gb278, 1, none⟩ = some (.bool false) := (blk_cell BK278.out 1).trans rfl; have hfz29_0 := blk_frozen BK278.out 0; have hfz29_1 := blk_frozen BK278.out 1; have hnb30 := NB279_280.out; have hnc30 := NB280_279.out; have hcz31_0 : w28.cell? ⟨gb279, 0, none⟩ = some (.string a1_0) := (blk_cell BK279.out 0).trans rfl; have hcz31_1 : w28.cell? ⟨gb279, 1, none⟩ = some (.bool a1_1) := (blk_cell BK279.out 1).trans rfl; have hcz31_2 : w28.cell? ⟨gb279, 2, none⟩ = some (.int .i64 a1_2) := (blk_cell BK279.out 2).trans rfl; have hcz31_3 : w28.cell? ⟨gb279, 3, none⟩ = some (.int .i64 a1_3) := (blk_cell BK279.out 3).trans rfl; have hcz31_4 : w28.cell? ⟨gb279, 4, none⟩ = some (.int .i64 a1_4) := (blk_cell BK279.out 4).trans rfl; have hcz31_5 : w28.cell? ⟨gb279, 5, none⟩ = some (.string a1_5) := (blk_cell BK279.out 5).trans rfl; have hfz31_0 := blk_frozen BK279.out 0; have hfz31_1 := blk_frozen BK279.out 1; have hfz31_2 := blk_frozen BK279.out 2; have hfz31_3 := blk_frozen BK279.out 3; have hfz31_4 := blk_frozen BK279.out 4; have hfz31_5 := blk_frozen BK279.out 5) | ((with_reducible refine gate_callee (f := 65) rfl ?_); refine goesL_ (some 19) rfl rfl Try.func65 (by kernel_rfl) rfl #[.agg #[.slice A0_0 l0_0.length c0_0, .bool false], .string a1_0] rfl (by (try simp only [List.map_toArray, List.map_cons, List.map_nil]); first | done | rfl | (simp only [List.length_drop, List.length_take]; rfl)) ?_; (with_reducible refine (rollcallref17_place.calls k _ _ l0_0 false a1_0 t287 _ ?side1 ?side2 A14.out).mono ?_); (case side1 => repeat (first | exact (Kd.V_reads' HO0_0.out).2.2 | (with_reducible refine Kd.C_alloc ?_ _) | (with_reducible refine Kd.C_drewN ?_ _) | (with_reducible refine Kd.C_drew ?_))); (case side2 => exact (Kd.V_reads' HO0_0.out).2.1); rintro e w32 ⟨rfl, hb⟩; refine ⟨_, rfl, ?_⟩; replace HO0_0 := Aside0.mk (Kd.V_below (vS HO0_0.out) hb); replace HO286 := Aside0.mk (Kd.R_below (rS HO286.out) hb); replace BK278 := Aside0.mk (blk_below (bS BK278.out) hb); replace BK279 := Aside0.mk (blk_below (bS BK279.out) hb); replace BK280 := Aside0.mk (blk_below (bS BK280.out) hb); replace HB := Aside0.mk (below_step (hS HB.out) hb); (try clear hb); (try clear hb2); (try clear hk); (try clear hi); have hcz33_0 : w32.cell? ⟨gb279, 0, none⟩ = some (.string a1_0) := (blk_cell BK279.out 0).trans rfl; have hcz33_1 : w32.cell? ⟨gb279, 1, none⟩ = some (.bool a1_1) := (blk_cell BK279.out 1).trans rfl; have hcz33_2 : w32.cell? ⟨gb279, 2, none⟩ = some (.int .i64 a1_2) := (blk_cell BK279.out 2).trans rfl; have hcz33_3 : w32.cell? ⟨gb279, 3, none⟩ = some (.int .i64 a1_3) := (blk_cell BK279.out 3).trans rfl; have hcz33_4 : w32.cell? ⟨gb279, 4, none⟩ = some (.int .i64 a1_4) := (blk_cell BK279.out 4).trans rfl; have hcz33_5 : w32.cell? ⟨gb279, 5, none⟩ = some (.string a1_5) := (blk_cell BK279.out 5).trans rfl; have hfz33_0 := blk_frozen BK279.out 0; have hfz33_1 := blk_frozen BK279.out 1; have hfz33_2 := blk_frozen BK279.out 2; have hfz33_3 := blk_frozen BK279.out 3; have hfz33_4 := blk_frozen BK279.out 4; have hfz33_5 := blk_frozen BK279.out 5; have p18 : 0 ≤ (t287 : Int) := of_decide_eq_true (by first | (with_reducible assumption) | assumption); have q18 : (t287 : Int) < ((y284.length : Int) : Int) := of_decide_eq_true (by first | (with_reducible assumption) | assumption); obtain ⟨go18, co18, eo18, gb18, gl18, cl18, HG18⟩ := Kd.R_form HO286.out (by omega); (first | cases eo18 | (injection eo18 with ea_ en_ ec_; (first | subst ea_ | (injection ea_ with ea_; subst ea_)); subst ec_; clear en_)); have GB18 := Aside0.mk gb18; have GG18 := Aside0.mk HG18; clear gb18 gl18 HG18; obtain ⟨ce18, hcl18, hM18, hcc18, hfr18⟩ := Kd.R_elem HO286.out z34 (t287 : Int) p18 q18; obtain rfl := k34_openM hM18; have hx18_0 : w32.cell? ⟨go18, (t287 : Int).toNat * 6, none⟩ = some (.string ((rd_T34 y284 t287).f0)) := hcc18 0 _ rfl; have hx18_1 : w32.cell? ⟨go18, (t287 : Int).toNat * 6 + 1, none⟩ = some (.bool ((rd_T34 y284 t287).f1)) := hcc18 1 _ rfl; have hx18_2 : w32.cell? ⟨go18, (t287 : Int).toNat * 6 + 2, none⟩ = some (.int .i64 ((rd_T34 y284 t287).f2.f0)) := hcc18 2 _ rfl; have hx18_3 : w32.cell? ⟨go18, (t287 : Int).toNat * 6 + 3, none⟩ = some (.int .i64 ((rd_T34 y284 t287).f2.f1)) := hcc18 3 _ rfl; have hx18_4 : w32.cell? ⟨go18, (t287 : Int).toNat * 6 + 4, none⟩ = some (.int .i64 ((rd_T34 y284 t287).f2.f2)) := hcc18 4 _ rfl; have hx18_5 : w32.cell? ⟨go18, (t287 : Int).toNat * 6 + 5, none⟩ = some (.string ((rd_T34 y284 t287).f2.f3)) := hcc18 5 _ rfl; have hf18_0 : w32.frozen? ⟨go18, (t287 : Int).toNat * 6, none⟩ = false := hfr18 0; have hf18_1 : w32.frozen? ⟨go18, (t287 : Int).toNat * 6 + 1, none⟩ = false := hfr18 1; have hf18_2 : w32.frozen? ⟨go18, (t287 : Int).toNat * 6 + 2, none⟩ = false := hfr18 2; have hf18_3 : w32.frozen? ⟨go18, (t287 : Int).toNat * 6 + 3, none⟩ = false := hfr18 3; have hf18_4 : w32.frozen? ⟨go18, (t287 : Int).toNat * 6 + 4, none⟩ = false := hfr18 4; have hf18_5 : w32.frozen? ⟨go18, (t287 : Int).toNat * 6 + 5, none⟩ = false := hfr18 5; clear hcl18 hcc18 hfr18 hM18; replace p18 := eq_true p18; replace q18 := eq_true q18; have HX34 := Aside0.mk (show Kd.R k34 34 w32 w.heap.size (fun k_ => (w.heap.size ≤ k_) ∧ k_ ≠ gb279) (.slice (some ⟨go18, 0, none⟩) y284.length co18) y284 from (rS HO286.out)); obtain ⟨ce34, hcl34, hM34, hcc34, hfr34⟩ := Kd.R_elem HX34.out z34 (t287 : Int) (of_decide_eq_true (by first | (with_reducible assumption) | assumption)) (by have h_ : (t287 : Int) < ((y284.length : Int) : Int) := of_decide_eq_true (by first | (with_reducible assumption) | assumption); first | exact h_ | (have e_ := (Kd.R_reads' HO286.out).1; omega) | simpa using h_); obtain rfl := k34_openM hM34; have HP34 := Kd.R_seg HX34.out (t287 : Int) (of_decide_eq_true (by first | (with_reducible assumption) | assumption)) (by have h_ : (t287 : Int) < ((y284.length : Int) : Int) := of_decide_eq_true (by first | (with_reducible assumption) | assumption); first | exact h_ | (have e_ := (Kd.R_reads' HO286.out).1; omega) | simpa using h_) (seg := [.string a1_0, .bool a1_1, .int .i64 a1_2, .int .i64 a1_3, .int .i64 a1_4, .string a1_5]) (j := 0) hcl34 hcc34 (show 6 ≤ 6 from by decide) (x' := (⟨a1_0, a1_1, (⟨a1_2, a1_3, a1_4, a1_5⟩ : S32)⟩ : S34)) (k34_mkM _ _ _ (⟨a1_0, a1_1, (⟨a1_2, a1_3, a1_4, a1_5⟩ : S32)⟩ : S34) ) (fun _ hk => hk); have hx34_0 := hcc34 0 _ rfl; (try simp only [show (k34).sz = 6 from rfl, Nat.mul_one, Nat.add_zero] at hx34_0); have hf34_0 := hfr34 0; (try simp only [show (k34).sz = 6 from rfl, Nat.mul_one, Nat.add_zero] at hf34_0); have hx34_1 := hcc34 1 _ rfl; (try simp only [show (k34).sz = 6 from rfl, Nat.mul_one, Nat.add_zero] at hx34_1); have hf34_1 := hfr34 1; (try simp only [show (k34).sz = 6 from rfl, Nat.mul_one, Nat.add_zero] at hf34_1); have hx34_2 := hcc34 2 _ rfl; (try simp only [show (k34).sz = 6 from rfl, Nat.mul_one, Nat.add_zero] at hx34_2); have hf34_2 := hfr34 2; (try simp only [show (k34).sz = 6 from rfl, Nat.mul_one, Nat.add_zero] at hf34_2); have hx34_3 := hcc34 3 _ rfl; (try simp only [show (k34).sz = 6 from rfl, Nat.mul_one, Nat.add_zero] at hx34_3); have hf34_3 := hfr34 3; (try simp only [show (k34).sz = 6 from rfl, Nat.mul_one, Nat.add_zero] at hf34_3); have hx34_4 := hcc34 4 _ rfl; (try simp only [show (k34).sz = 6 from rfl, Nat.mul_one, Nat.add_zero] at hx34_4); have hf34_4 := hfr34 4; (try simp only [show (k34).sz = 6 from rfl, Nat.mul_one, Nat.add_zero] at hf34_4); have hx34_5 := hcc34 5 _ rfl; (try simp only [show (k34).sz = 6 from rfl, Nat.mul_one, Nat.add_zero] at hx34_5); have hf34_5 := hfr34 5; (try simp only [show (k34).sz = 6 from rfl, Nat.mul_one, Nat.add_zero] at hf34_5); clear hcl34 hcc34 hfr34 hM34) | ((with_reducible refine gate_store (t := 34) (p := 25) rfl ?_); refine store_event (t := 34) (p := 25) (v := ?vo_w35) (w1 := ((((((w32.setCell ⟨go18, (t287 : Int).toNat * 6, none⟩ (.string a1_0)).setCell ⟨go18, (t287 : Int).toNat * 6 + 1, none⟩ (.bool a1_1)).setCell ⟨go18, (t287 : Int).toNat * 6 + 2, none⟩ (.int .i64 a1_2)).setCell ⟨go18, (t287 : Int).toNat * 6 + 3, none⟩ (.int .i64 a1_3)).setCell ⟨go18, (t287 : Int).toNat * 6 + 4, none⟩ (.int .i64 a1_4)).setCell ⟨go18, (t287 : Int).toNat * 6 + 5, none⟩ (.string a1_5))) ?hg ?ho ?hn ?hr ?_; (case ho => rfl); (case hg => rfl); (case hn => rfl); (case hr => first | (go_simp; done) | (go_simp; rfl)); intro w35 hw; have hg : w32.grownBy w35 (some go18) := (by rw [hw]; exact HP34.2); have hp_ : Kd.R k34 34 w35 w.heap.size (fun k_ => (w.heap.size ≤ k_) ∧ k_ ≠ gb279) (.slice (some ⟨go18, 0, none⟩) y284.length co18) y288 := (by rw [hw, Ny288.out]; exact HP34.1); clear HP34; replace HO0_0 := Aside0.mk (Kd.V_afterv (v := (.slice (some ⟨go18, 0, none⟩) y284.length co18)) (v1 := (.slice (some ⟨go18, 0, none⟩) y284.length co18)) (ok := (fun k_ => (P0_0_ k_ ∨ w.heap.size ≤ k_) ∧ k_ ≠ gb278 ∧ k_ ≠ gb279 ∧ k_ ≠ gb280)) (vS HO0_0.out) hg (.inl rfl)); replace BK278 := Aside0.mk (blk_grown (bS BK278.out) hg (Kd.R_ne HO286.out BK278.out (by decide))); replace BK279 := Aside0.mk (blk_grown (bS BK279.out) hg (Kd.R_away HO286.out (fun _ hk => hk.2))); replace BK280 := Aside0.mk (blk_grown (bS BK280.out) hg (Kd.R_ne HO286.out BK280.out (by decide))); replace HO286 := Aside0.mk (hp_); replace HB := Aside0.mk ((by rw [hw]; exact below_set (below_set (below_set (below_set (below_set (below_set (HB.out) GB18.out) GB18.out) GB18.out) GB18.out) GB18.out) GB18.out : Below w.heap.size w w35)); clear hg hw hp_; have hcz36_0 : w35.cell? ⟨gb280, 0, none⟩ = some (.slice none 0 0) := (blk_cell BK280.out 0).trans rfl; have hcz36_1 : w35.cell? ⟨gb280, 1, none⟩ = some (.bool false) := (blk_cell BK280.out 1).trans rfl; have hfz36_0 := blk_frozen BK280.out 0; have hfz36_1 := blk_frozen BK280.out 1))
      refine bodyPost_ret (results_cell_row rfl _ _ gb280 26 #[.slice (some ⟨go18, 0, none⟩) y284.length co18, .bool false] (0, 0) _ rfl (bS (blk_put (bS (blk_put (bS BK280.out) 0 _ rfl)) 1 _ rfl)) Try.underlying26 rfl (by kernel_rfl)) rfl ?_
      exact ⟨_, by first | rfl | (simp [errW_none, errW_some] <;> rfl) | (simp [*, errW_none, errW_some] <;> rfl), Kd.V_mono (Kd.R_V (by (with_reducible repeat (first | apply Kd.R_alloc | apply Kd.R_drewN | apply Kd.R_drew)); exact Kd.R_mono (Kd.R_far (p := ⟨gb280, 1, none⟩) (Kd.R_far (p := ⟨gb280, 0, none⟩) (Kd.R_types HO286.out BK280.out (by decide)) (fun _ hk => hk.2) (.slice (some ⟨go18, 0, none⟩) y284.length co18)) (fun _ hk => hk.2) (.bool false)) (fun _ hk => hk.1.1))) (fun k_ hk => by first | exact ⟨(.inr (hk.1)), hk.2⟩ | exact (.inr (hk))), by repeat (first | (with_reducible first | exact HB.out | apply below_alloc | apply pw_below_drewN | apply below_drew1 | refine below_set ?_ GE278.out | refine below_set ?_ GE279.out | refine below_set ?_ GE280.out) | exact HB.out)⟩
     ·rw [if_neg c17] at H
      exact absurd H (by simp)
    ·rw [if_neg c16] at H
     exact absurd H (by simp)
   ·rw [if_neg c15] at H
    have c15b0 : decide (0 ≤ t287) = false := decide_eq_false c15
    clear c15
    by_cases c37 : (y284.length : Int) < a2
    ·rw [if_pos c37] at H
     have c37b0 : decide ((y284.length : Int) < a2) = true := decide_eq_true c37
     clear c37
     by_cases c38 : y284.length < 2199023255552
     ·rw [if_pos c38] at H
      have LMc38 := Aside0.mk c38
      clear c38
      obtain ⟨y289, hy289⟩ : ∃ y_ : List (S34), y_ = (y284 ++ [(⟨a1_0, a1_1, (⟨a1_2, a1_3, a1_4, a1_5⟩ : S32)⟩ : S34)]) := ⟨_, rfl⟩
      replace H : (some (y289, false)) = some (r1, r2) := by first | (rw [hy289]; with_reducible exact H) | (have H2_ := (Option.bind_some _ _).symm.trans H; rw [hy289]; with_reducible exact H2_) | (have H2_ := (Option.bind_some _ _).symm.trans H; with_reducible exact H2_) | with_reducible exact H | (rw [hy289]; exact H) | exact H
      have Ny289 := Aside0.mk hy289
      clear hy289
      simp only [Option.some.injEq, Prod.mk.injEq] at H
      obtain ⟨rfl, rfl⟩ := H
      go_enter Try.func49, Try.ntmps49
      go_wp2_with (first | ((with_reducible refine gate_dst (N := 3) rfl ?_); refine box_event ?hg (N := 3) ?hd (cs := #[.slice A0_0 l0_0.length c0_0, .bool false]) (t := 26) ?hr ?_; (case hd => rfl); (case hg => rfl); (case hr => first | (go_simp; done) | (go_simp; rfl)); intro gb278 hg w39 hbox hb; replace HO0_0 := Aside0.mk (Kd.V_below (Kd.V_elderB (vS HO0_0.out) gb278 (Nat.le_of_eq hg.symm)) hb); have BK278 := Aside0.mk (hbox); have GW278 := Aside0.mk ((by rw [hg]; exact (below_size (hS HB.out)) : w.heap.size ≤ gb278)); have GE278 := Aside0.mk ((by rw [hg]; exact (below_size (hS HB.out)) : w.heap.size ≤ gb278)); replace HB := Aside0.mk (below_step (hS HB.out) hb); clear hb hbox hg) | ((with_reducible refine gate_dst (N := 4) rfl ?_); refine box_event ?hg (N := 4) ?hd (cs := #[.string a1_0, .bool a1_1, .int .i64 a1_2, .int .i64 a1_3, .int .i64 a1_4, .string a1_5]) (t := 34) ?hr ?_; (case hd => rfl); (case hg => rfl); (case hr => first | (go_simp; done) | (go_simp; rfl)); intro gb279 hg w40 hbox hb; replace HO0_0 := Aside0.mk (Kd.V_below (Kd.V_elderB (vS HO0_0.out) gb279 (Nat.le_of_eq hg.symm)) hb); have BK279 := Aside0.mk (hbox); have GW279 := Aside0.mk ((by rw [hg]; exact (below_size (hS HB.out)) : w.heap.size ≤ gb279)); have GE279 := Aside0.mk ((by rw [hg]; exact (below_size (hS HB.out)) : w.heap.size ≤ gb279)); replace HB := Aside0.mk (below_step (hS HB.out) hb); have NB278_279 := Aside0.mk ((by rw [hg]; exact Nat.ne_of_lt (blk_lt (bS BK278.out)) : gb278 ≠ gb279)); have NB279_278 := Aside0.mk ((by rw [hg]; exact Nat.ne_of_gt (blk_lt (bS BK278.out)) : gb279 ≠ gb278)); replace BK278 := Aside0.mk (blk_below (bS BK278.out) hb); clear hb hbox hg) | ((with_reducible refine gate_dst (N := 6) rfl ?_); refine box_event ?hg (N := 6) ?hd (cs := #[.slice none 0 0, .bool false]) (t := 26) ?hr ?_; (case hd => rfl); (case hg => rfl); (case hr => first | (go_simp; done) | (go_simp; rfl)); intro gb280 hg w41 hbox hb; replace HO0_0 := Aside0.mk (Kd.V_below (Kd.V_elderB (vS HO0_0.out) gb280 (Nat.le_of_eq hg.symm)) hb); have BK280 := Aside0.mk (hbox); have GW280 := Aside0.mk ((by rw [hg]; exact (below_size (hS HB.out)) : w.heap.size ≤ gb280)); have GE280 := Aside0.mk ((by rw [hg]; exact (below_size (hS HB.out)) : w.heap.size ≤ gb280)); replace HB := Aside0.mk (below_step (hS HB.out) hb); have NB278_280 := Aside0.mk ((by rw [hg]; exact Nat.ne_of_lt (blk_lt (bS BK278.out)) : gb278 ≠ gb280)); have NB280_278 := Aside0.mk ((by rw [hg]; exact Nat.ne_of_gt (blk_lt (bS BK278.out)) : gb280 ≠ gb278)); replace BK278 := Aside0.mk (blk_below (bS BK278.out) hb); have NB279_280 := Aside0.mk ((by rw [hg]; exact Nat.ne_of_lt (blk_lt (bS BK279.out)) : gb279 ≠ gb280)); have NB280_279 := Aside0.mk ((by rw [hg]; exact Nat.ne_of_gt (blk_lt (bS BK279.out)) : gb280 ≠ gb279)); replace BK279 := Aside0.mk (blk_below (bS BK279.out) hb); clear hb hbox hg; have hnb42 := NB278_279.out; have hnc42 := NB279_278.out; have hnb43 := NB278_280.out; have hnc43 := NB280_278.out; have hcz44_0 : w41.cell? ⟨gb278, 0, none⟩ = some (.slice A0_0 l0_0.length c0_0) := (blk_cell BK278.out 0).trans rfl; have hcz44_1 : w41.cell? ⟨gb278, 1, none⟩ = some (.bool false) := (blk_cell BK278.out 1).trans rfl; have hfz44_0 := blk_frozen BK278.out 0; have hfz44_1 := blk_frozen BK278.out 1) | ((with_reducible refine gate_dst (N := 12) rfl ?_); refine Kd.R_lit k34 _ 34 ?hg (N := 12) ?hd (xs := ([] : List (S34))) (inner := []) (ok := fun _ => True) (okp := fun _ => True) ?hr ?hp (fun _ hk => hk) trivial (Below.refl _ _) (Nat.le_refl _) (by simp) ?_; (case hd => rfl); (case hg => rfl); (case hr => first | (go_simp; done) | (go_simp; rfl)); (case hp => exact (Reps.none _ _)); intro v282 w45 ho46 hb hg_ hnew_; clear hg_ hnew_; (first | rw [← Ny281.out] at ho46 | (simp only [Int.reduceToNat] at ho46; rw [← Ny281.out] at ho46)); replace HO0_0 := Aside0.mk (Kd.V_elder' (vS HO0_0.out) (Kd.R_base ho46) hb); have HO283 := Aside0.mk (Kd.R_lower (Kd.R_newB (Kd.R_newM (M := fun k_ => (w.heap.size ≤ k_)) ho46 (below_size (hS HB.out)) (fun k_ h_ => h_)) (bS BK279.out)) (below_size (hS HB.out))); replace BK278 := Aside0.mk (blk_below (bS BK278.out) hb); replace BK279 := Aside0.mk (blk_below (bS BK279.out) hb); replace BK280 := Aside0.mk (blk_below (bS BK280.out) hb); replace HB := Aside0.mk (below_step (hS HB.out) hb); clear hb ho46; have hcz47_0 : w45.cell? ⟨gb278, 0, none⟩ = some (.slice A0_0 l0_0.length c0_0) := (blk_cell BK278.out 0).trans rfl; have hcz47_1 : w45.cell? ⟨gb278, 1, none⟩ = some (.bool false) := (blk_cell BK278.out 1).trans rfl; have hfz47_0 := blk_frozen BK278.out 0; have hfz47_1 := blk_frozen BK278.out 1) | ((with_reducible refine gate_builtin (b := .append) (xs := #[.tmp 12, .tmp 14]) rfl ?_); at_builtin; refine Kd.R_append_rows k34 (w0 := w) w.heap.size rfl (.tmp 12) (.tmp 14) 24 34 (.agg #[(.string ⟨#[]⟩), (.bool false), (.int .i64 0), (.int .i64 0), (.int .i64 0), (.string ⟨#[]⟩)]) 64 rfl Try.underlying24 info34 rfl (by decide) (by omega) v282 y281 l0_0 _ _ _ (fun k_ => (w.heap.size ≤ k_) ∧ k_ ≠ gb279) (fun _ => False) rfl rfl ?aO ?aR (fun _ _ h => h) (fun _ h => h.elim) ?aF ?aB ?aS ?aL ?_; (case aR => repeat (first | exact (Kd.V_reads' HO0_0.out).2.2 | (with_reducible refine Kd.C_alloc ?_ _) | (with_reducible refine Kd.C_drewN ?_ _) | (with_reducible refine Kd.C_drew ?_))); (case aB => exact (hS HB.out)); (case aF => exact (fun k_ hk => ⟨(Nat.le_trans (below_size (hS HB.out)) hk), Kd.freshB (bS BK279.out) k_ hk⟩)); (case aO => exact (by (with_reducible repeat (first | apply Kd.R_alloc | apply Kd.R_drewN | apply Kd.R_drew)); exact Kd.R_mono HO283.out (fun _ hk => ⟨hk.1.1, hk.2⟩))); (case aS => exact (below_size (hS HB.out))); (case aL => have := LMc13.out; omega); intro v285 w48 ho hb hg hat; rw [← Ny284.out] at ho; replace HO0_0 := Aside0.mk (Kd.V_afterv (ok := (fun k_ => (P0_0_ k_ ∨ w.heap.size ≤ k_) ∧ k_ ≠ gb278 ∧ k_ ≠ gb279 ∧ k_ ≠ gb280)) (by (with_reducible repeat (first | apply Kd.V_alloc | apply Kd.V_drewN | apply Kd.V_drew)); exact Kd.V_mono HO0_0.out (fun _ hk => ⟨⟨hk.1.1.1.1, ⟨hk.1.1.1.2, ⟨hk.1.1.2, hk.1.2⟩⟩⟩, hk.2⟩)) hg hat); replace BK278 := Aside0.mk (blk_grown (bS BK278.out) hg (Kd.R_ne HO283.out BK278.out (by decide))); replace BK279 := Aside0.mk (blk_grown (bS BK279.out) hg (Kd.R_away HO283.out (fun _ hk => hk.2))); replace BK280 := Aside0.mk (blk_grown (bS BK280.out) hg (Kd.R_ne HO283.out BK280.out (by decide))); replace HB := Aside0.mk (hb); have HO286 := Aside0.mk (ho); clear HO283; clear ho hb hg hat; have hcz49_0 : w48.cell? ⟨gb278, 0, none⟩ = some (.slice A0_0 l0_0.length c0_0) := (blk_cell BK278.out 0).trans rfl; have hcz49_1 : w48.cell? ⟨gb278, 1, none⟩ = some (.bool false) := (blk_cell BK278.out 1).trans rfl; have hfz49_0 := blk_frozen BK278.out 0; have hfz49_1 := blk_frozen BK278.out 1; have hnb50 := NB279_280.out; have hnc50 := NB280_279.out; have hcz51_0 : w48.cell? ⟨gb279, 0, none⟩ = some (.string a1_0) := (blk_cell BK279.out 0).trans rfl; have hcz51_1 : w48.cell? ⟨gb279, 1, none⟩ = some (.bool a1_1) := (blk_cell BK279.out 1).trans rfl; have hcz51_2 : w48.cell? ⟨gb279, 2, none⟩ = some (.int .i64 a1_2) := (blk_cell BK279.out 2).trans rfl; have hcz51_3 : w48.cell? ⟨gb279, 3, none⟩ = some (.int .i64 a1_3) := (blk_cell BK279.out 3).trans rfl; have hcz51_4 : w48.cell? ⟨gb279, 4, none⟩ = some (.int .i64 a1_4) := (blk_cell BK279.out 4).trans rfl; have hcz51_5 : w48.cell? ⟨gb279, 5, none⟩ = some (.string a1_5) := (blk_cell BK279.out 5).trans rfl; have hfz51_0 := blk_frozen BK279.out 0; have hfz51_1 := blk_frozen BK279.out 1; have hfz51_2 := blk_frozen BK279.out 2; have hfz51_3 := blk_frozen BK279.out 3; have hfz51_4 := blk_frozen BK279.out 4; have hfz51_5 := blk_frozen BK279.out 5) | ((with_reducible refine gate_callee (f := 65) rfl ?_); refine goesL_ (some 19) rfl rfl Try.func65 (by kernel_rfl) rfl #[.agg #[.slice A0_0 l0_0.length c0_0, .bool false], .string a1_0] rfl (by (try simp only [List.map_toArray, List.map_cons, List.map_nil]); first | done | rfl | (simp only [List.length_drop, List.length_take]; rfl)) ?_; (with_reducible refine (rollcallref17_place.calls k _ _ l0_0 false a1_0 t287 _ ?side1 ?side2 A14.out).mono ?_); (case side1 => repeat (first | exact (Kd.V_reads' HO0_0.out).2.2 | (with_reducible refine Kd.C_alloc ?_ _) | (with_reducible refine Kd.C_drewN ?_ _) | (with_reducible refine Kd.C_drew ?_))); (case side2 => exact (Kd.V_reads' HO0_0.out).2.1); rintro e w52 ⟨rfl, hb⟩; refine ⟨_, rfl, ?_⟩; replace HO0_0 := Aside0.mk (Kd.V_below (vS HO0_0.out) hb); replace HO286 := Aside0.mk (Kd.R_below (rS HO286.out) hb); replace BK278 := Aside0.mk (blk_below (bS BK278.out) hb); replace BK279 := Aside0.mk (blk_below (bS BK279.out) hb); replace BK280 := Aside0.mk (blk_below (bS BK280.out) hb); replace HB := Aside0.mk (below_step (hS HB.out) hb); (try clear hb); (try clear hb2); (try clear hk); (try clear hi); obtain ⟨Ao53, co53, eo53⟩ := Kd.R_slice HO286.out; subst eo53; have hcz54_0 : w52.cell? ⟨gb279, 0, none⟩ = some (.string a1_0) := (blk_cell BK279.out 0).trans rfl; have hcz54_1 : w52.cell? ⟨gb279, 1, none⟩ = some (.bool a1_1) := (blk_cell BK279.out 1).trans rfl; have hcz54_2 : w52.cell? ⟨gb279, 2, none⟩ = some (.int .i64 a1_2) := (blk_cell BK279.out 2).trans rfl; have hcz54_3 : w52.cell? ⟨gb279, 3, none⟩ = some (.int .i64 a1_3) := (blk_cell BK279.out 3).trans rfl; have hcz54_4 : w52.cell? ⟨gb279, 4, none⟩ = some (.int .i64 a1_4) := (blk_cell BK279.out 4).trans rfl; have hcz54_5 : w52.cell? ⟨gb279, 5, none⟩ = some (.string a1_5) := (blk_cell BK279.out 5).trans rfl; have hfz54_0 := blk_frozen BK279.out 0; have hfz54_1 := blk_frozen BK279.out 1; have hfz54_2 := blk_frozen BK279.out 2; have hfz54_3 := blk_frozen BK279.out 3; have hfz54_4 := blk_frozen BK279.out 4; have hfz54_5 := blk_frozen BK279.out 5) | ((with_reducible refine gate_builtin (b := .append) (xs := #[.tmp 32, .tmp 34]) rfl ?_); at_builtin; refine Kd.R_append k34 (w0 := w) w.heap.size rfl (.tmp 32) (.tmp 34) 24 34 (.agg #[(.string ⟨#[]⟩), (.bool false), (.int .i64 0), (.int .i64 0), (.int .i64 0), (.string ⟨#[]⟩)]) 64 rfl Try.underlying24 info34 rfl (by decide) (by omega) (.slice Ao53 y284.length co53) y284 (⟨a1_0, a1_1, (⟨a1_2, a1_3, a1_4, a1_5⟩ : S32)⟩ : S34) [.string a1_0, .bool a1_1, .int .i64 a1_2, .int .i64 a1_3, .int .i64 a1_4, .string a1_5] (fun k_ => (w.heap.size ≤ k_) ∧ k_ ≠ gb279) (fun _ => False) rfl rfl ?aP (fun _ hk => hk.elim) ?aF ?aO ?aB ?aS ?aL ?_; (case aP => exact k34_mkM _ _ _ (⟨a1_0, a1_1, (⟨a1_2, a1_3, a1_4, a1_5⟩ : S32)⟩ : S34)); (case aB => exact (hS HB.out)); (case aF => exact (fun k_ hk => ⟨(Nat.le_trans (below_size (hS HB.out)) hk), Kd.freshB (bS BK279.out) k_ hk⟩)); (case aO => exact (rS HO286.out)); (case aS => exact (below_size (hS HB.out))); (case aL => have := LMc38.out; omega); intro v290 w55 ho hb hg hat; rw [← Ny289.out] at ho; replace HO0_0 := Aside0.mk (Kd.V_afterv (ok := (fun k_ => (P0_0_ k_ ∨ w.heap.size ≤ k_) ∧ k_ ≠ gb278 ∧ k_ ≠ gb279 ∧ k_ ≠ gb280)) (vS HO0_0.out) hg hat); replace BK278 := Aside0.mk (blk_grown (bS BK278.out) hg (Kd.R_ne HO286.out BK278.out (by decide))); replace BK279 := Aside0.mk (blk_grown (bS BK279.out) hg (Kd.R_away HO286.out (fun _ hk => hk.2))); replace BK280 := Aside0.mk (blk_grown (bS BK280.out) hg (Kd.R_ne HO286.out BK280.out (by decide))); replace HB := Aside0.mk (hb); have HO291 := Aside0.mk (ho); clear HO286; clear ho hb hg hat; obtain ⟨Ao56, co56, eo56⟩ := Kd.R_slice HO291.out; subst eo56; have hcz57_0 : w55.cell? ⟨gb280, 0, none⟩ = some (.slice none 0 0) := (blk_cell BK280.out 0).trans rfl; have hcz57_1 : w55.cell? ⟨gb280, 1, none⟩ = some (.bool false) := (blk_cell BK280.out 1).trans rfl; have hfz57_0 := blk_frozen BK280.out 0; have hfz57_1 := blk_frozen BK280.out 1))
      refine bodyPost_ret (results_cell_row rfl _ _ gb280 26 #[.slice Ao56 y289.length co56, .bool false] (0, 0) _ rfl (bS (blk_put (bS (blk_put (bS BK280.out) 0 _ rfl)) 1 _ rfl)) Try.underlying26 rfl (by kernel_rfl)) rfl ?_
      exact ⟨_, by first | rfl | (simp [errW_none, errW_some] <;> rfl) | (simp [*, errW_none, errW_some] <;> rfl), Kd.V_mono (Kd.R_V (by (with_reducible repeat (first | apply Kd.R_alloc | apply Kd.R_drewN | apply Kd.R_drew)); exact Kd.R_mono (Kd.R_far (p := ⟨gb280, 1, none⟩) (Kd.R_far (p := ⟨gb280, 0, none⟩) (Kd.R_types HO291.out BK280.out (by decide)) (fun _ hk => hk.2) (.slice Ao56 y289.length co56)) (fun _ hk => hk.2) (.bool false)) (fun _ hk => hk.1.1))) (fun k_ hk => by first | exact ⟨(.inr (hk.1)), hk.2⟩ | exact (.inr (hk))), by repeat (first | (with_reducible first | exact HB.out | apply below_alloc | apply pw_below_drewN | apply below_drew1 | refine below_set ?_ GE278.out | refine below_set ?_ GE279.out | refine below_set ?_ GE280.out) | exact HB.out)⟩
     ·rw [if_neg c38] at H
      exact absurd H (by simp)
    ·rw [if_neg c37] at H
     have c37b0 : decide ((y284.length : Int) < a2) = false := decide_eq_false c37
     clear c37
     simp only [Option.some.injEq, Prod.mk.injEq] at H
     obtain ⟨rfl, rfl⟩ := H
     go_enter Try.func49, Try.ntmps49
     go_wp2_with (first | ((with_reducible refine gate_dst (N := 3) rfl ?_); refine box_event ?hg (N := 3) ?hd (cs := #[.slice A0_0 l0_0.length c0_0, .bool false]) (t := 26) ?hr ?_; (case hd => rfl); (case hg => rfl); (case hr => first | (go_simp; done) | (go_simp; rfl)); intro gb278 hg w58 hbox hb; replace HO0_0 := Aside0.mk (Kd.V_below (Kd.V_elderB (vS HO0_0.out) gb278 (Nat.le_of_eq hg.symm)) hb); have BK278 := Aside0.mk (hbox); have GW278 := Aside0.mk ((by rw [hg]; exact (below_size (hS HB.out)) : w.heap.size ≤ gb278)); have GE278 := Aside0.mk ((by rw [hg]; exact (below_size (hS HB.out)) : w.heap.size ≤ gb278)); replace HB := Aside0.mk (below_step (hS HB.out) hb); clear hb hbox hg) | ((with_reducible refine gate_dst (N := 4) rfl ?_); refine box_event ?hg (N := 4) ?hd (cs := #[.string a1_0, .bool a1_1, .int .i64 a1_2, .int .i64 a1_3, .int .i64 a1_4, .string a1_5]) (t := 34) ?hr ?_; (case hd => rfl); (case hg => rfl); (case hr => first | (go_simp; done) | (go_simp; rfl)); intro gb279 hg w59 hbox hb; replace HO0_0 := Aside0.mk (Kd.V_below (Kd.V_elderB (vS HO0_0.out) gb279 (Nat.le_of_eq hg.symm)) hb); have BK279 := Aside0.mk (hbox); have GW279 := Aside0.mk ((by rw [hg]; exact (below_size (hS HB.out)) : w.heap.size ≤ gb279)); have GE279 := Aside0.mk ((by rw [hg]; exact (below_size (hS HB.out)) : w.heap.size ≤ gb279)); replace HB := Aside0.mk (below_step (hS HB.out) hb); have NB278_279 := Aside0.mk ((by rw [hg]; exact Nat.ne_of_lt (blk_lt (bS BK278.out)) : gb278 ≠ gb279)); have NB279_278 := Aside0.mk ((by rw [hg]; exact Nat.ne_of_gt (blk_lt (bS BK278.out)) : gb279 ≠ gb278)); replace BK278 := Aside0.mk (blk_below (bS BK278.out) hb); clear hb hbox hg) | ((with_reducible refine gate_dst (N := 6) rfl ?_); refine box_event ?hg (N := 6) ?hd (cs := #[.slice none 0 0, .bool false]) (t := 26) ?hr ?_; (case hd => rfl); (case hg => rfl); (case hr => first | (go_simp; done) | (go_simp; rfl)); intro gb280 hg w60 hbox hb; replace HO0_0 := Aside0.mk (Kd.V_below (Kd.V_elderB (vS HO0_0.out) gb280 (Nat.le_of_eq hg.symm)) hb); have BK280 := Aside0.mk (hbox); have GW280 := Aside0.mk ((by rw [hg]; exact (below_size (hS HB.out)) : w.heap.size ≤ gb280)); have GE280 := Aside0.mk ((by rw [hg]; exact (below_size (hS HB.out)) : w.heap.size ≤ gb280)); replace HB := Aside0.mk (below_step (hS HB.out) hb); have NB278_280 := Aside0.mk ((by rw [hg]; exact Nat.ne_of_lt (blk_lt (bS BK278.out)) : gb278 ≠ gb280)); have NB280_278 := Aside0.mk ((by rw [hg]; exact Nat.ne_of_gt (blk_lt (bS BK278.out)) : gb280 ≠ gb278)); replace BK278 := Aside0.mk (blk_below (bS BK278.out) hb); have NB279_280 := Aside0.mk ((by rw [hg]; exact Nat.ne_of_lt (blk_lt (bS BK279.out)) : gb279 ≠ gb280)); have NB280_279 := Aside0.mk ((by rw [hg]; exact Nat.ne_of_gt (blk_lt (bS BK279.out)) : gb280 ≠ gb279)); replace BK279 := Aside0.mk (blk_below (bS BK279.out) hb); clear hb hbox hg; have hnb61 := NB278_279.out; have hnc61 := NB279_278.out; have hnb62 := NB278_280.out; have hnc62 := NB280_278.out; have hcz63_0 : w60.cell? ⟨gb278, 0, none⟩ = some (.slice A0_0 l0_0.length c0_0) := (blk_cell BK278.out 0).trans rfl; have hcz63_1 : w60.cell? ⟨gb278, 1, none⟩ = some (.bool false) := (blk_cell BK278.out 1).trans rfl; have hfz63_0 := blk_frozen BK278.out 0; have hfz63_1 := blk_frozen BK278.out 1) | ((with_reducible refine gate_dst (N := 12) rfl ?_); refine Kd.R_lit k34 _ 34 ?hg (N := 12) ?hd (xs := ([] : List (S34))) (inner := []) (ok := fun _ => True) (okp := fun _ => True) ?hr ?hp (fun _ hk => hk) trivial (Below.refl _ _) (Nat.le_refl _) (by simp) ?_; (case hd => rfl); (case hg => rfl); (case hr => first | (go_simp; done) | (go_simp; rfl)); (case hp => exact (Reps.none _ _)); intro v282 w64 ho65 hb hg_ hnew_; clear hg_ hnew_; (first | rw [← Ny281.out] at ho65 | (simp only [Int.reduceToNat] at ho65; rw [← Ny281.out] at ho65)); replace HO0_0 := Aside0.mk (Kd.V_elder' (vS HO0_0.out) (Kd.R_base ho65) hb); have HO283 := Aside0.mk (Kd.R_lower (Kd.R_newB (Kd.R_newM (M := fun k_ => (w.heap.size ≤ k_)) ho65 (below_size (hS HB.out)) (fun k_ h_ => h_)) (bS BK279.out)) (below_size (hS HB.out))); replace BK278 := Aside0.mk (blk_below (bS BK278.out) hb); replace BK279 := Aside0.mk (blk_below (bS BK279.out) hb); replace BK280 := Aside0.mk (blk_below (bS BK280.out) hb); replace HB := Aside0.mk (below_step (hS HB.out) hb); clear hb ho65; have hcz66_0 : w64.cell? ⟨gb278, 0, none⟩ = some (.slice A0_0 l0_0.length c0_0) := (blk_cell BK278.out 0).trans rfl; have hcz66_1 : w64.cell? ⟨gb278, 1, none⟩ = some (.bool false) := (blk_cell BK278.out 1).trans rfl; have hfz66_0 := blk_frozen BK278.out 0; have hfz66_1 := blk_frozen BK278.out 1) | ((with_reducible refine gate_builtin (b := .append) (xs := #[.tmp 12, .tmp 14]) rfl ?_); at_builtin; refine Kd.R_append_rows k34 (w0 := w) w.heap.size rfl (.tmp 12) (.tmp 14) 24 34 (.agg #[(.string ⟨#[]⟩), (.bool false), (.int .i64 0), (.int .i64 0), (.int .i64 0), (.string ⟨#[]⟩)]) 64 rfl Try.underlying24 info34 rfl (by decide) (by omega) v282 y281 l0_0 _ _ _ (fun k_ => (w.heap.size ≤ k_) ∧ k_ ≠ gb279) (fun _ => False) rfl rfl ?aO ?aR (fun _ _ h => h) (fun _ h => h.elim) ?aF ?aB ?aS ?aL ?_; (case aR => repeat (first | exact (Kd.V_reads' HO0_0.out).2.2 | (with_reducible refine Kd.C_alloc ?_ _) | (with_reducible refine Kd.C_drewN ?_ _) | (with_reducible refine Kd.C_drew ?_))); (case aB => exact (hS HB.out)); (case aF => exact (fun k_ hk => ⟨(Nat.le_trans (below_size (hS HB.out)) hk), Kd.freshB (bS BK279.out) k_ hk⟩)); (case aO => exact (by (with_reducible repeat (first | apply Kd.R_alloc | apply Kd.R_drewN | apply Kd.R_drew)); exact Kd.R_mono HO283.out (fun _ hk => ⟨hk.1.1, hk.2⟩))); (case aS => exact (below_size (hS HB.out))); (case aL => have := LMc13.out; omega); intro v285 w67 ho hb hg hat; rw [← Ny284.out] at ho; replace HO0_0 := Aside0.mk (Kd.V_afterv (ok := (fun k_ => (P0_0_ k_ ∨ w.heap.size ≤ k_) ∧ k_ ≠ gb278 ∧ k_ ≠ gb279 ∧ k_ ≠ gb280)) (by (with_reducible repeat (first | apply Kd.V_alloc | apply Kd.V_drewN | apply Kd.V_drew)); exact Kd.V_mono HO0_0.out (fun _ hk => ⟨⟨hk.1.1.1.1, ⟨hk.1.1.1.2, ⟨hk.1.1.2, hk.1.2⟩⟩⟩, hk.2⟩)) hg hat); replace BK278 := Aside0.mk (blk_grown (bS BK278.out) hg (Kd.R_ne HO283.out BK278.out (by decide))); replace BK279 := Aside0.mk (blk_grown (bS BK279.out) hg (Kd.R_away HO283.out (fun _ hk => hk.2))); replace BK280 := Aside0.mk (blk_grown (bS BK280.out) hg (Kd.R_ne HO283.out BK280.out (by decide))); replace HB := Aside0.mk (hb); have HO286 := Aside0.mk (ho); clear HO283; clear ho hb hg hat; have hcz68_0 : w67.cell? ⟨gb278, 0, none⟩ = some (.slice A0_0 l0_0.length c0_0) := (blk_cell BK278.out 0).trans rfl; have hcz68_1 : w67.cell? ⟨gb278, 1, none⟩ = some (.bool false) := (blk_cell BK278.out 1).trans rfl; have hfz68_0 := blk_frozen BK278.out 0; have hfz68_1 := blk_frozen BK278.out 1; have hnb69 := NB279_280.out; have hnc69 := NB280_279.out; have hcz70_0 : w67.cell? ⟨gb279, 0, none⟩ = some (.string a1_0) := (blk_cell BK279.out 0).trans rfl; have hcz70_1 : w67.cell? ⟨gb279, 1, none⟩ = some (.bool a1_1) := (blk_cell BK279.out 1).trans rfl; have hcz70_2 : w67.cell? ⟨gb279, 2, none⟩ = some (.int .i64 a1_2) := (blk_cell BK279.out 2).trans rfl; have hcz70_3 : w67.cell? ⟨gb279, 3, none⟩ = some (.int .i64 a1_3) := (blk_cell BK279.out 3).trans rfl; have hcz70_4 : w67.cell? ⟨gb279, 4, none⟩ = some (.int .i64 a1_4) := (blk_cell BK279.out 4).trans rfl; have hcz70_5 : w67.cell? ⟨gb279, 5, none⟩ = some (.string a1_5) := (blk_cell BK279.out 5).trans rfl; have hfz70_0 := blk_frozen BK279.out 0; have hfz70_1 := blk_frozen BK279.out 1; have hfz70_2 := blk_frozen BK279.out 2; have hfz70_3 := blk_frozen BK279.out 3; have hfz70_4 := blk_frozen BK279.out 4; have hfz70_5 := blk_frozen BK279.out 5) | ((with_reducible refine gate_callee (f := 65) rfl ?_); refine goesL_ (some 19) rfl rfl Try.func65 (by kernel_rfl) rfl #[.agg #[.slice A0_0 l0_0.length c0_0, .bool false], .string a1_0] rfl (by (try simp only [List.map_toArray, List.map_cons, List.map_nil]); first | done | rfl | (simp only [List.length_drop, List.length_take]; rfl)) ?_; (with_reducible refine (rollcallref17_place.calls k _ _ l0_0 false a1_0 t287 _ ?side1 ?side2 A14.out).mono ?_); (case side1 => repeat (first | exact (Kd.V_reads' HO0_0.out).2.2 | (with_reducible refine Kd.C_alloc ?_ _) | (with_reducible refine Kd.C_drewN ?_ _) | (with_reducible refine Kd.C_drew ?_))); (case side2 => exact (Kd.V_reads' HO0_0.out).2.1); rintro e w71 ⟨rfl, hb⟩; refine ⟨_, rfl, ?_⟩; replace HO0_0 := Aside0.mk (Kd.V_below (vS HO0_0.out) hb); replace HO286 := Aside0.mk (Kd.R_below (rS HO286.out) hb); replace BK278 := Aside0.mk (blk_below (bS BK278.out) hb); replace BK279 := Aside0.mk (blk_below (bS BK279.out) hb); replace BK280 := Aside0.mk (blk_below (bS BK280.out) hb); replace HB := Aside0.mk (below_step (hS HB.out) hb); (try clear hb); (try clear hb2); (try clear hk); (try clear hi); obtain ⟨Ao72, co72, eo72⟩ := Kd.R_slice HO286.out; subst eo72; have hcz73_0 : w71.cell? ⟨gb280, 0, none⟩ = some (.slice none 0 0) := (blk_cell BK280.out 0).trans rfl; have hcz73_1 : w71.cell? ⟨gb280, 1, none⟩ = some (.bool false) := (blk_cell BK280.out 1).trans rfl; have hfz73_0 := blk_frozen BK280.out 0; have hfz73_1 := blk_frozen BK280.out 1))
     refine bodyPost_ret (results_cell_row rfl _ _ gb280 26 #[.slice none 0 0, .bool true] (0, 0) _ rfl (bS (blk_put (bS (blk_put (bS BK280.out) 0 _ rfl)) 1 _ rfl)) Try.underlying26 rfl (by kernel_rfl)) rfl ?_
     exact ⟨_, by first | rfl | (simp [errW_none, errW_some] <;> rfl) | (simp [*, errW_none, errW_some] <;> rfl), Kd.V_nil _ _ _ _ _, by repeat (first | (with_reducible first | exact HB.out | apply below_alloc | apply pw_below_drewN | apply below_drew1 | refine below_set ?_ GE278.out | refine below_set ?_ GE279.out | refine below_set ?_ GE280.out) | exact HB.out)⟩
  ·rw [if_neg c13] at H
   exact absurd H (by simp)

/-! ### rollcallref18_Push: function 20 -/
/-! ### rollcallref05_Few: function 23 -/
/-! ### rollcallref03_Less: function 58 -/
end Go.Proofs.Ytmigglldahkngaa.PA
end

section
-- Written by a program of this session (wip/tools/xprint.py), which drives the kit's print.
namespace Go.Proofs.Ytmigglldahkngaa.PA
open Go.RowKit Go.Proofs.YtmigglldahkngaaW.PrintWords Go.Proofs.YtmigglldahkngaaW.PrintLast Go.Proofs.YtmigglldahkngaaW.PrintMore
attribute [local go_sem] max2_int min2_int max_two min_two   -- for this text's walks alone
set_option linter.unusedVariables false
set_option linter.unusedSimpArgs false

/-! ### rollcallref05_Set: function 32 -/
/-! ### rollcallref17_Over: function 31 -/
/-! ### queue_Pop: function 88 -/
def queue_Pop.f (l0_0 : List (S34)) (a0_1 : Bool) : Option (ByteArray × Bool × Int × Int × Int × ByteArray × (List (S34)) × Bool × Bool) := if (l0_0.length : Int) = 0 then (some ((⟨#[]⟩ : ByteArray), false, 0, 0, 0, (⟨#[]⟩ : ByteArray), l0_0, a0_1, false)) else (if 0 < (l0_0.length : Int) then (if 1 ≤ (l0_0.length : Int) then (some ((rd_T34 l0_0 0).f0, (rd_T34 l0_0 0).f1, (rd_T34 l0_0 0).f2.f0, (rd_T34 l0_0 0).f2.f1, (rd_T34 l0_0 0).f2.f2, (rd_T34 l0_0 0).f2.f3, (l0_0.drop 1), a0_1, true)) else (none)) else (none))
set_option maxHeartbeats 8000000 in
set_option maxRecDepth 100000 in
theorem queue_Pop.calls (P0_0_ : Nat → Prop) (A0_0 : Option Addr) (c0_0 : Nat) (l0_0 : List (S34)) (a0_1 : Bool) (r1 : ByteArray) (r2 : Bool) (r3 : Int) (r4 : Int) (r5 : Int) (r6 : ByteArray) (r7 : List (S34)) (r8 : Bool) (r9 : Bool) (w : World) (hs0_0 : Kd.V k34 34 w w.heap.size (fun k_ => P0_0_ k_) (.slice A0_0 l0_0.length c0_0) l0_0) (h : queue_Pop.f l0_0 a0_1 = some (r1, r2, r3, r4, r5, r6, r7, r8, r9)) :
  Calls Try.prog 88 #[.agg #[.slice A0_0 l0_0.length c0_0, .bool a0_1]] w fun e w' => ∃ v6_ : Value, e = .returned (.tuple #[.agg #[.string r1, .bool r2, .int .i64 r3, .int .i64 r4, .int .i64 r5, .string r6], .agg #[v6_, .bool r8], .bool r9]) ∧ Kd.V k34 34 w' w.heap.size (fun k_ => (P0_0_ k_ ∨ w.heap.size ≤ k_)) v6_ r7 ∧ Below w.heap.size w w' := by
 have hu26 := Try.underlying26
 have hu34 := Try.underlying34
 have HO0_0 := Aside0.mk (show Kd.V k34 34 w w.heap.size (fun k_ => (P0_0_ k_ ∨ w.heap.size ≤ k_)) (.slice A0_0 l0_0.length c0_0) l0_0 from Kd.V_mono hs0_0 (fun k_ hk => .inl hk))
 have HB := Aside0.mk (Below.refl w.heap.size w)
 have H : (if (l0_0.length : Int) = 0 then (some ((⟨#[]⟩ : ByteArray), false, 0, 0, 0, (⟨#[]⟩ : ByteArray), l0_0, a0_1, false)) else (if 0 < (l0_0.length : Int) then (if 1 ≤ (l0_0.length : Int) then (some ((rd_T34 l0_0 0).f0, (rd_T34 l0_0 0).f1, (rd_T34 l0_0 0).f2.f0, (rd_T34 l0_0 0).f2.f1, (rd_T34 l0_0 0).f2.f2, (rd_T34 l0_0 0).f2.f3, (l0_0.drop 1), a0_1, true)) else (none)) else (none))) = some (r1, r2, r3, r4, r5, r6, r7, r8, r9) := h
 clear h
 by_cases c2 : (l0_0.length : Int) = 0
 ·rw [if_pos c2] at H
  have c2b0 : ((l0_0.length : Int) == 0) = true := beq_iff_eq.mpr c2
  have c2b1 : ((l0_0.length : Int) != 0) = false := bne_eq_false_iff_eq.mpr c2
  clear c2
  simp only [Option.some.injEq, Prod.mk.injEq] at H
  obtain ⟨rfl, rfl, rfl, rfl, rfl, rfl, rfl, rfl, rfl⟩ := H
  go_enter Try.func88, Try.ntmps88
  try go_wp2_with (first | ((with_reducible refine gate_dst (N := 1) rfl ?_); refine box_event ?hg (N := 1) ?hd (cs := #[.slice A0_0 l0_0.length c0_0, .bool a0_1]) (t := 26) ?hr ?_; (case hd => rfl); (case hg => rfl); (case hr => first | (go_simp; done) | (go_simp; rfl)); intro gb445 hg w3 hbox hb; replace HO0_0 := Aside0.mk (Kd.V_below (Kd.V_elderB (vS HO0_0.out) gb445 (Nat.le_of_eq hg.symm)) hb); have BK445 := Aside0.mk (hbox); have GW445 := Aside0.mk ((by rw [hg]; exact (below_size (hS HB.out)) : w.heap.size ≤ gb445)); have GE445 := Aside0.mk ((by rw [hg]; exact (below_size (hS HB.out)) : w.heap.size ≤ gb445)); replace HB := Aside0.mk (below_step (hS HB.out) hb); clear hb hbox hg) | ((with_reducible refine gate_dst (N := 2) rfl ?_); refine box_event ?hg (N := 2) ?hd (cs := #[.string (⟨#[]⟩ : ByteArray), .bool false, .int .i64 0, .int .i64 0, .int .i64 0, .string (⟨#[]⟩ : ByteArray)]) (t := 34) ?hr ?_; (case hd => rfl); (case hg => rfl); (case hr => first | (go_simp; done) | (go_simp; rfl)); intro gb446 hg w4 hbox hb; replace HO0_0 := Aside0.mk (Kd.V_below (Kd.V_elderB (vS HO0_0.out) gb446 (Nat.le_of_eq hg.symm)) hb); have BK446 := Aside0.mk (hbox); have GW446 := Aside0.mk ((by rw [hg]; exact (below_size (hS HB.out)) : w.heap.size ≤ gb446)); have GE446 := Aside0.mk ((by rw [hg]; exact (below_size (hS HB.out)) : w.heap.size ≤ gb446)); replace HB := Aside0.mk (below_step (hS HB.out) hb); have NB445_446 := Aside0.mk ((by rw [hg]; exact Nat.ne_of_lt (blk_lt (bS BK445.out)) : gb445 ≠ gb446)); have NB446_445 := Aside0.mk ((by rw [hg]; exact Nat.ne_of_gt (blk_lt (bS BK445.out)) : gb446 ≠ gb445)); replace BK445 := Aside0.mk (blk_below (bS BK445.out) hb); clear hb hbox hg) | ((with_reducible refine gate_dst (N := 3) rfl ?_); refine box_event ?hg (N := 3) ?hd (cs := #[.slice none 0 0, .bool false]) (t := 26) ?hr ?_; (case hd => rfl); (case hg => rfl); (case hr => first | (go_simp; done) | (go_simp; rfl)); intro gb447 hg w5 hbox hb; replace HO0_0 := Aside0.mk (Kd.V_below (Kd.V_elderB (vS HO0_0.out) gb447 (Nat.le_of_eq hg.symm)) hb); have BK447 := Aside0.mk (hbox); have GW447 := Aside0.mk ((by rw [hg]; exact (below_size (hS HB.out)) : w.heap.size ≤ gb447)); have GE447 := Aside0.mk ((by rw [hg]; exact (below_size (hS HB.out)) : w.heap.size ≤ gb447)); replace HB := Aside0.mk (below_step (hS HB.out) hb); have NB445_447 := Aside0.mk ((by rw [hg]; exact Nat.ne_of_lt (blk_lt (bS BK445.out)) : gb445 ≠ gb447)); have NB447_445 := Aside0.mk ((by rw [hg]; exact Nat.ne_of_gt (blk_lt (bS BK445.out)) : gb447 ≠ gb445)); replace BK445 := Aside0.mk (blk_below (bS BK445.out) hb); have NB446_447 := Aside0.mk ((by rw [hg]; exact Nat.ne_of_lt (blk_lt (bS BK446.out)) : gb446 ≠ gb447)); have NB447_446 := Aside0.mk ((by rw [hg]; exact Nat.ne_of_gt (blk_lt (bS BK446.out)) : gb447 ≠ gb446)); replace BK446 := Aside0.mk (blk_below (bS BK446.out) hb); clear hb hbox hg; have hnb6 := NB445_446.out; have hnc6 := NB446_445.out; have hnb7 := NB445_447.out; have hnc7 := NB447_445.out; have hcz8_0 : w5.cell? ⟨gb445, 0, none⟩ = some (.slice A0_0 l0_0.length c0_0) := (blk_cell BK445.out 0).trans rfl; have hcz8_1 : w5.cell? ⟨gb445, 1, none⟩ = some (.bool a0_1) := (blk_cell BK445.out 1).trans rfl; have hfz8_0 := blk_frozen BK445.out 0; have hfz8_1 := blk_frozen BK445.out 1))
  replace HO0_0 := Aside0.mk (Kd.V_drew HO0_0.out)
  replace BK445 := Aside0.mk (blk_drew BK445.out)
  replace BK446 := Aside0.mk (blk_drew BK446.out)
  replace BK447 := Aside0.mk (blk_drew BK447.out)
  replace HB := Aside0.mk (below_drew1 HB.out)
  refine start_ (n := 5) (S := fun w' => w'.cell? ⟨gb445, 0, none⟩ = some (.slice A0_0 l0_0.length c0_0) ∧ w'.cell? ⟨gb445, 1, none⟩ = some (.bool a0_1)) (ds := []) #[false, false, false, false, false] (by kernel_rfl) rfl rfl ⟨(blk_cell BK445.out 0).trans rfl, (blk_cell BK445.out 1).trans rfl⟩ (fun hHeld => ?_)
  generalize w5.drew = w9 at HO0_0 BK445 BK446 BK447 HB hHeld ⊢
  refine pure_ (i := 0) (N := some 10) (v := ?_) (a' := ?_) #[true, false, false, false, false] rfl rfl (by kernel_rfl) (fun _ _ _ h => h) (Or.inl ⟨by rfl, ?_⟩) ?_ ?_
  rotate_left
  ·intro w'
   go_simp
   with_reducible rfl
  rotate_left
  ·simp only [Act.put, List.setIfInBounds_toArray, List.set_cons_zero, List.set_cons_succ, i64_w, i32_w]
   rfl
  refine take_ (i := 1) (N := some 11) (v := ?_) (a' := ?_) #[true, true, false, false, false] rfl rfl (by kernel_rfl) (fun _ _ _ h => h) (Or.inl ⟨by rfl, ?_⟩) hHeld ?_ ?_
  rotate_left
  ·rintro w' ⟨s0, s1⟩
   go_simp
   with_reducible rfl
  rotate_left
  ·simp only [Act.put, List.setIfInBounds_toArray, List.set_cons_zero, List.set_cons_succ, i64_w, i32_w]
   rfl
  refine one_ (i := 2) (N := none) #[true, true, true, false, false] rfl rfl (by kernel_rfl) (by decide) (fun K hK => ?_)
  have hs10 : w9.cell? ⟨gb446, 0, none⟩ = some (.string (⟨#[]⟩ : ByteArray)) := (blk_cell BK446.out 0).trans rfl
  have hfs10 := blk_frozen BK446.out 0
  have hns10_0 := NB445_446.out
  have hns10_2 := NB447_446.out
  have hms10_0 := NB446_445.out
  have hms10_2 := NB446_447.out
  have hs11 : w9.cell? ⟨gb446, 1, none⟩ = some (.bool false) := (blk_cell BK446.out 1).trans rfl
  have hfs11 := blk_frozen BK446.out 1
  have hns11_0 := NB445_446.out
  have hns11_2 := NB447_446.out
  have hms11_0 := NB446_445.out
  have hms11_2 := NB446_447.out
  have hs12 : w9.cell? ⟨gb446, 2, none⟩ = some (.int .i64 0) := (blk_cell BK446.out 2).trans rfl
  have hfs12 := blk_frozen BK446.out 2
  have hns12_0 := NB445_446.out
  have hns12_2 := NB447_446.out
  have hms12_0 := NB446_445.out
  have hms12_2 := NB446_447.out
  have hs13 : w9.cell? ⟨gb446, 3, none⟩ = some (.int .i64 0) := (blk_cell BK446.out 3).trans rfl
  have hfs13 := blk_frozen BK446.out 3
  have hns13_0 := NB445_446.out
  have hns13_2 := NB447_446.out
  have hms13_0 := NB446_445.out
  have hms13_2 := NB446_447.out
  have hs14 : w9.cell? ⟨gb446, 4, none⟩ = some (.int .i64 0) := (blk_cell BK446.out 4).trans rfl
  have hfs14 := blk_frozen BK446.out 4
  have hns14_0 := NB445_446.out
  have hns14_2 := NB447_446.out
  have hms14_0 := NB446_445.out
  have hms14_2 := NB446_447.out
  have hs15 : w9.cell? ⟨gb446, 5, none⟩ = some (.string (⟨#[]⟩ : ByteArray)) := (blk_cell BK446.out 5).trans rfl
  have hfs15 := blk_frozen BK446.out 5
  have hns15_0 := NB445_446.out
  have hns15_2 := NB447_446.out
  have hms15_0 := NB446_445.out
  have hms15_2 := NB446_447.out
  refine skip_ (w1 := ?_) (by rfl) rfl ?_ ?_
  rotate_left
  ·go_simp
   rfl
  refine hK.out _ _ ⟨((cell_far (p := ⟨gb446, _, none⟩) NB445_446.out _).trans (((cell_far (p := ⟨gb446, _, none⟩) NB445_446.out _).trans (((cell_far (p := ⟨gb446, _, none⟩) NB445_446.out _).trans (((cell_far (p := ⟨gb446, _, none⟩) NB445_446.out _).trans (((cell_far (p := ⟨gb446, _, none⟩) NB445_446.out _).trans (((cell_far (p := ⟨gb446, _, none⟩) NB445_446.out _).trans (hHeld.1)))))))))))), ((cell_far (p := ⟨gb446, _, none⟩) NB445_446.out _).trans (((cell_far (p := ⟨gb446, _, none⟩) NB445_446.out _).trans (((cell_far (p := ⟨gb446, _, none⟩) NB445_446.out _).trans (((cell_far (p := ⟨gb446, _, none⟩) NB445_446.out _).trans (((cell_far (p := ⟨gb446, _, none⟩) NB445_446.out _).trans (((cell_far (p := ⟨gb446, _, none⟩) NB445_446.out _).trans (hHeld.2))))))))))))⟩ (fun hHeld => ?_)
  clear hK K
  clear hs10 hfs10 hns10_0 hns10_2 hms10_0 hms10_2 hs11 hfs11 hns11_0 hns11_2 hms11_0 hms11_2 hs12 hfs12 hns12_0 hns12_2 hms12_0 hms12_2 hs13 hfs13 hns13_0 hns13_2 hms13_0 hms13_2 hs14 hfs14 hns14_0 hns14_2 hms14_0 hms14_2 hs15 hfs15 hns15_0 hns15_2 hms15_0 hms15_2
  generalize hq_ : ((((((w9.setCell ⟨gb446, 0, none⟩ (.string (⟨#[]⟩ : ByteArray))).setCell ⟨gb446, 1, none⟩ (.bool false)).setCell ⟨gb446, 2, none⟩ (.int .i64 0)).setCell ⟨gb446, 3, none⟩ (.int .i64 0)).setCell ⟨gb446, 4, none⟩ (.int .i64 0)).setCell ⟨gb446, 5, none⟩ (.string (⟨#[]⟩ : ByteArray))) = w9_c at hHeld ⊢
  have z_ := @id (((((((w9.setCell ⟨gb446, 0, none⟩ (.string (⟨#[]⟩ : ByteArray))).setCell ⟨gb446, 1, none⟩ (.bool false)).setCell ⟨gb446, 2, none⟩ (.int .i64 0)).setCell ⟨gb446, 3, none⟩ (.int .i64 0)).setCell ⟨gb446, 4, none⟩ (.int .i64 0)).setCell ⟨gb446, 5, none⟩ (.string (⟨#[]⟩ : ByteArray))).heap[gb446]? = some _) (bS (blk_put (bS (blk_put (bS (blk_put (bS (blk_put (bS (blk_put (bS (blk_put (bS BK446.out) 0 _ rfl)) 1 _ rfl)) 2 _ rfl)) 3 _ rfl)) 4 _ rfl)) 5 _ rfl)); rw [hq_] at z_; replace BK446 := Aside0.mk z_; clear z_
  have z_ := @id (((((((w9.setCell ⟨gb446, 0, none⟩ (.string (⟨#[]⟩ : ByteArray))).setCell ⟨gb446, 1, none⟩ (.bool false)).setCell ⟨gb446, 2, none⟩ (.int .i64 0)).setCell ⟨gb446, 3, none⟩ (.int .i64 0)).setCell ⟨gb446, 4, none⟩ (.int .i64 0)).setCell ⟨gb446, 5, none⟩ (.string (⟨#[]⟩ : ByteArray))).heap[gb447]? = some _) (bF BK447.out NB447_446.out); rw [hq_] at z_; replace BK447 := Aside0.mk z_; clear z_
  have z_ := @id (Kd.V _ _ ((((((w9.setCell ⟨gb446, 0, none⟩ (.string (⟨#[]⟩ : ByteArray))).setCell ⟨gb446, 1, none⟩ (.bool false)).setCell ⟨gb446, 2, none⟩ (.int .i64 0)).setCell ⟨gb446, 3, none⟩ (.int .i64 0)).setCell ⟨gb446, 4, none⟩ (.int .i64 0)).setCell ⟨gb446, 5, none⟩ (.string (⟨#[]⟩ : ByteArray))) _ _ _ _) (vF (b := gb446) (Kd.V_mono HO0_0.out (fun k_ hk => (⟨hk, hk.1.2⟩ : _ ∧ k_ ≠ gb446))) (fun _ hk => hk.2)); rw [hq_] at z_; replace HO0_0 := Aside0.mk z_; clear z_
  replace HB : Aside0 (Below w.heap.size w w9_c) := ⟨by rw [← hq_]; exact (by repeat (first | (with_reducible first | exact HB.out | apply below_alloc | apply pw_below_drewN | apply below_drew1 | refine below_set ?_ GE445.out | refine below_set ?_ GE446.out | refine below_set ?_ GE447.out) | exact HB.out))⟩
  clear hq_
  refine one_ (i := 3) (N := none) #[true, true, true, true, false] rfl rfl (by kernel_rfl) (by decide) (fun K hK => ?_)
  have hs16 : w9_c.cell? ⟨gb447, 0, none⟩ = some (.slice none 0 0) := (blk_cell BK447.out 0).trans rfl
  have hfs16 := blk_frozen BK447.out 0
  have hns16_0 := NB445_447.out
  have hns16_1 := NB446_447.out
  have hms16_0 := NB447_445.out
  have hms16_1 := NB447_446.out
  have hs17 : w9_c.cell? ⟨gb447, 1, none⟩ = some (.bool false) := (blk_cell BK447.out 1).trans rfl
  have hfs17 := blk_frozen BK447.out 1
  have hns17_0 := NB445_447.out
  have hns17_1 := NB446_447.out
  have hms17_0 := NB447_445.out
  have hms17_1 := NB447_446.out
  refine skip_ (w1 := ?_) (by rfl) rfl ?_ ?_
  rotate_left
  ·go_simp
   rfl
  refine hK.out _ _ ⟨((cell_far (p := ⟨gb447, _, none⟩) NB445_447.out _).trans (((cell_far (p := ⟨gb447, _, none⟩) NB445_447.out _).trans (hHeld.1)))), ((cell_far (p := ⟨gb447, _, none⟩) NB445_447.out _).trans (((cell_far (p := ⟨gb447, _, none⟩) NB445_447.out _).trans (hHeld.2))))⟩ (fun hHeld => ?_)
  clear hK K
  refine pure_ (i := 4) (N := some 4) (v := ?_) (a' := ?_) #[true, true, true, true, true] rfl rfl (by kernel_rfl) (fun _ _ _ h => h) (Or.inl ⟨by rfl, ?_⟩) ?_ ?_
  rotate_left
  ·intro w'
   go_simp
   with_reducible rfl
  rotate_left
  ·simp only [Act.put, List.setIfInBounds_toArray, List.set_cons_zero, List.set_cons_succ, i64_w, i32_w]
   rfl
  refine done_ (by kernel_rfl) ?_
  try go_wp2
  refine bodyPost_ret (results_list (rs := [.cell 2 34, .cell 3 26, .tmp 4]) rfl (by simp) (.cell gb446 34 #[.string (⟨#[]⟩ : ByteArray), .bool false, .int .i64 0, .int .i64 0, .int .i64 0, .string (⟨#[]⟩ : ByteArray)] (0, 0) _ rfl (bF BK446.out NB446_447.out) Try.underlying34 rfl (by kernel_rfl) (.cell gb447 26 #[.slice A0_0 l0_0.length c0_0, .bool a0_1] (0, 0) _ rfl (bS (blk_put (bS (blk_put BK447.out 0 _ rfl)) 1 _ rfl)) Try.underlying26 rfl (by kernel_rfl) (.tmp .nil)))) rfl ?_
  exact ⟨_, by first | rfl | (simp [errW_none, errW_some] <;> rfl) | (simp [*, errW_none, errW_some] <;> rfl), by (with_reducible repeat (first | apply Kd.V_alloc | apply Kd.V_drewN | apply Kd.V_drew)); exact Kd.V_mono (vF (b := gb447) (Kd.V_mono HO0_0.out (fun k_ hk => (⟨hk, hk.1.2⟩ : _ ∧ k_ ≠ gb447))) (fun _ hk => hk.2)) (fun _ hk => hk.1.1.1.1.1), by repeat (first | (with_reducible first | exact HB.out | apply below_alloc | apply pw_below_drewN | apply below_drew1 | refine below_set ?_ GE445.out | refine below_set ?_ GE446.out | refine below_set ?_ GE447.out) | exact HB.out)⟩
 ·rw [if_neg c2] at H
  have c2b0 : ((l0_0.length : Int) == 0) = false := beq_eq_false_iff_ne.mpr c2
  have c2b1 : ((l0_0.length : Int) != 0) = true := bne_iff_ne.mpr c2
  have c2b2 : ¬ (l0_0 = []) := fun h_ => c2 (by rw [h_]; rfl)
  by_cases c18 : 0 < (l0_0.length : Int)
  ·rw [if_pos c18] at H
   have c18b0 : decide (0 < (l0_0.length : Int)) = true := decide_eq_true c18
   have c18b1 : decide (0 < l0_0.length) = true := decide_eq_true (by omega)
   clear c18
   by_cases c19 : 1 ≤ (l0_0.length : Int)
   ·rw [if_pos c19] at H
    have c19b0 := eq_true c19
    have c19b1 : decide (1 ≤ (l0_0.length : Int)) = true := decide_eq_true c19
    clear c19
    obtain ⟨y450, hy450⟩ : ∃ y_ : List (S34), y_ = (l0_0.drop 1) := ⟨_, rfl⟩
    replace H : (some ((rd_T34 l0_0 0).f0, (rd_T34 l0_0 0).f1, (rd_T34 l0_0 0).f2.f0, (rd_T34 l0_0 0).f2.f1, (rd_T34 l0_0 0).f2.f2, (rd_T34 l0_0 0).f2.f3, y450, a0_1, true)) = some (r1, r2, r3, r4, r5, r6, r7, r8, r9) := by first | (rw [hy450]; with_reducible exact H) | (have H2_ := (Option.bind_some _ _).symm.trans H; rw [hy450]; with_reducible exact H2_) | (have H2_ := (Option.bind_some _ _).symm.trans H; with_reducible exact H2_) | with_reducible exact H | (rw [hy450]; exact H) | exact H
    have Ny450 := Aside0.mk hy450
    clear hy450
    simp only [Option.some.injEq, Prod.mk.injEq] at H
    obtain ⟨rfl, rfl, rfl, rfl, rfl, rfl, rfl, rfl, rfl⟩ := H
    go_enter Try.func88, Try.ntmps88
    try go_wp2_with (first | ((with_reducible refine gate_dst (N := 1) rfl ?_); refine box_event ?hg (N := 1) ?hd (cs := #[.slice A0_0 l0_0.length c0_0, .bool a0_1]) (t := 26) ?hr ?_; (case hd => rfl); (case hg => rfl); (case hr => first | (go_simp; done) | (go_simp; rfl)); intro gb445 hg w20 hbox hb; replace HO0_0 := Aside0.mk (Kd.V_below (Kd.V_elderB (vS HO0_0.out) gb445 (Nat.le_of_eq hg.symm)) hb); have BK445 := Aside0.mk (hbox); have GW445 := Aside0.mk ((by rw [hg]; exact (below_size (hS HB.out)) : w.heap.size ≤ gb445)); have GE445 := Aside0.mk ((by rw [hg]; exact (below_size (hS HB.out)) : w.heap.size ≤ gb445)); replace HB := Aside0.mk (below_step (hS HB.out) hb); clear hb hbox hg) | ((with_reducible refine gate_dst (N := 2) rfl ?_); refine box_event ?hg (N := 2) ?hd (cs := #[.string (⟨#[]⟩ : ByteArray), .bool false, .int .i64 0, .int .i64 0, .int .i64 0, .string (⟨#[]⟩ : ByteArray)]) (t := 34) ?hr ?_; (case hd => rfl); (case hg => rfl); (case hr => first | (go_simp; done) | (go_simp; rfl)); intro gb446 hg w21 hbox hb; replace HO0_0 := Aside0.mk (Kd.V_below (Kd.V_elderB (vS HO0_0.out) gb446 (Nat.le_of_eq hg.symm)) hb); have BK446 := Aside0.mk (hbox); have GW446 := Aside0.mk ((by rw [hg]; exact (below_size (hS HB.out)) : w.heap.size ≤ gb446)); have GE446 := Aside0.mk ((by rw [hg]; exact (below_size (hS HB.out)) : w.heap.size ≤ gb446)); replace HB := Aside0.mk (below_step (hS HB.out) hb); have NB445_446 := Aside0.mk ((by rw [hg]; exact Nat.ne_of_lt (blk_lt (bS BK445.out)) : gb445 ≠ gb446)); have NB446_445 := Aside0.mk ((by rw [hg]; exact Nat.ne_of_gt (blk_lt (bS BK445.out)) : gb446 ≠ gb445)); replace BK445 := Aside0.mk (blk_below (bS BK445.out) hb); clear hb hbox hg) | ((with_reducible refine gate_dst (N := 3) rfl ?_); refine box_event ?hg (N := 3) ?hd (cs := #[.slice none 0 0, .bool false]) (t := 26) ?hr ?_; (case hd => rfl); (case hg => rfl); (case hr => first | (go_simp; done) | (go_simp; rfl)); intro gb447 hg w22 hbox hb; replace HO0_0 := Aside0.mk (Kd.V_below (Kd.V_elderB (vS HO0_0.out) gb447 (Nat.le_of_eq hg.symm)) hb); have BK447 := Aside0.mk (hbox); have GW447 := Aside0.mk ((by rw [hg]; exact (below_size (hS HB.out)) : w.heap.size ≤ gb447)); have GE447 := Aside0.mk ((by rw [hg]; exact (below_size (hS HB.out)) : w.heap.size ≤ gb447)); replace HB := Aside0.mk (below_step (hS HB.out) hb); have NB445_447 := Aside0.mk ((by rw [hg]; exact Nat.ne_of_lt (blk_lt (bS BK445.out)) : gb445 ≠ gb447)); have NB447_445 := Aside0.mk ((by rw [hg]; exact Nat.ne_of_gt (blk_lt (bS BK445.out)) : gb447 ≠ gb445)); replace BK445 := Aside0.mk (blk_below (bS BK445.out) hb); have NB446_447 := Aside0.mk ((by rw [hg]; exact Nat.ne_of_lt (blk_lt (bS BK446.out)) : gb446 ≠ gb447)); have NB447_446 := Aside0.mk ((by rw [hg]; exact Nat.ne_of_gt (blk_lt (bS BK446.out)) : gb447 ≠ gb446)); replace BK446 := Aside0.mk (blk_below (bS BK446.out) hb); clear hb hbox hg; have hnb23 := NB445_446.out; have hnc23 := NB446_445.out; have hnb24 := NB445_447.out; have hnc24 := NB447_445.out; have hcz25_0 : w22.cell? ⟨gb445, 0, none⟩ = some (.slice A0_0 l0_0.length c0_0) := (blk_cell BK445.out 0).trans rfl; have hcz25_1 : w22.cell? ⟨gb445, 1, none⟩ = some (.bool a0_1) := (blk_cell BK445.out 1).trans rfl; have hfz25_0 := blk_frozen BK445.out 0; have hfz25_1 := blk_frozen BK445.out 1; have p448 : 0 ≤ (0 : Int) := (by omega); have q448 : 0 < (l0_0.length : Int) := of_decide_eq_true (by first | (with_reducible assumption) | assumption); obtain ⟨ad448, e448, hx448_0, hx448_1, hx448_2, hx448_3, hx448_4, hx448_5⟩ := at_T34 (Kd.V_reads' HO0_0.out).2.2 0 p448 q448; cases e448; have qi448 : (0 < l0_0.length) = True := eq_true (by omega); (try rw [show ((0 : Int)).toNat = 0 from rfl] at hx448_0); (try rw [show 0 * 6 = 0 from rfl] at hx448_0); (try rw [Addr.add_zero'] at hx448_0); (try rw [show ((0 : Int)).toNat = 0 from rfl] at hx448_1); (try rw [show 0 * 6 = 0 from rfl] at hx448_1); (try rw [Addr.add_zero'] at hx448_1); (try rw [show ((0 : Int)).toNat = 0 from rfl] at hx448_2); (try rw [show 0 * 6 = 0 from rfl] at hx448_2); (try rw [Addr.add_zero'] at hx448_2); (try rw [show ((0 : Int)).toNat = 0 from rfl] at hx448_3); (try rw [show 0 * 6 = 0 from rfl] at hx448_3); (try rw [Addr.add_zero'] at hx448_3); (try rw [show ((0 : Int)).toNat = 0 from rfl] at hx448_4); (try rw [show 0 * 6 = 0 from rfl] at hx448_4); (try rw [Addr.add_zero'] at hx448_4); (try rw [show ((0 : Int)).toNat = 0 from rfl] at hx448_5); (try rw [show 0 * 6 = 0 from rfl] at hx448_5); (try rw [Addr.add_zero'] at hx448_5); replace p448 := eq_true p448; replace q448 := eq_true q448) | ((with_reducible refine gate_dst (N := 5) rfl ?_); refine box_event ?hg (N := 5) ?hd (cs := #[.string (⟨#[]⟩ : ByteArray), .bool false, .int .i64 0, .int .i64 0, .int .i64 0, .string (⟨#[]⟩ : ByteArray)]) (t := 34) ?hr ?_; (case hd => rfl); (case hg => rfl); (case hr => first | (go_simp; done) | (go_simp; rfl)); intro gb449 hg w26 hbox hb; replace HO0_0 := Aside0.mk (Kd.V_below (Kd.V_elderB (vS HO0_0.out) gb449 (Nat.le_of_eq hg.symm)) hb); have BK449 := Aside0.mk (hbox); have GW449 := Aside0.mk ((by rw [hg]; exact (below_size (hS HB.out)) : w.heap.size ≤ gb449)); have GE449 := Aside0.mk ((by rw [hg]; exact (below_size (hS HB.out)) : w.heap.size ≤ gb449)); replace HB := Aside0.mk (below_step (hS HB.out) hb); have NB445_449 := Aside0.mk ((by rw [hg]; exact Nat.ne_of_lt (blk_lt (bS BK445.out)) : gb445 ≠ gb449)); have NB449_445 := Aside0.mk ((by rw [hg]; exact Nat.ne_of_gt (blk_lt (bS BK445.out)) : gb449 ≠ gb445)); replace BK445 := Aside0.mk (blk_below (bS BK445.out) hb); have NB446_449 := Aside0.mk ((by rw [hg]; exact Nat.ne_of_lt (blk_lt (bS BK446.out)) : gb446 ≠ gb449)); have NB449_446 := Aside0.mk ((by rw [hg]; exact Nat.ne_of_gt (blk_lt (bS BK446.out)) : gb449 ≠ gb446)); replace BK446 := Aside0.mk (blk_below (bS BK446.out) hb); have NB447_449 := Aside0.mk ((by rw [hg]; exact Nat.ne_of_lt (blk_lt (bS BK447.out)) : gb447 ≠ gb449)); have NB449_447 := Aside0.mk ((by rw [hg]; exact Nat.ne_of_gt (blk_lt (bS BK447.out)) : gb449 ≠ gb447)); replace BK447 := Aside0.mk (blk_below (bS BK447.out) hb); clear hb hbox hg; have hnb27 := NB449_445.out; have hnc27 := NB445_449.out; have hnb28 := NB449_446.out; have hnc28 := NB446_449.out; have hnb29 := NB449_447.out; have hnc29 := NB447_449.out; have hcz30_0 : w26.cell? ⟨gb449, 0, none⟩ = some (.string (⟨#[]⟩ : ByteArray)) := (blk_cell BK449.out 0).trans rfl; have hcz30_1 : w26.cell? ⟨gb449, 1, none⟩ = some (.bool false) := (blk_cell BK449.out 1).trans rfl; have hcz30_2 : w26.cell? ⟨gb449, 2, none⟩ = some (.int .i64 0) := (blk_cell BK449.out 2).trans rfl; have hcz30_3 : w26.cell? ⟨gb449, 3, none⟩ = some (.int .i64 0) := (blk_cell BK449.out 3).trans rfl; have hcz30_4 : w26.cell? ⟨gb449, 4, none⟩ = some (.int .i64 0) := (blk_cell BK449.out 4).trans rfl; have hcz30_5 : w26.cell? ⟨gb449, 5, none⟩ = some (.string (⟨#[]⟩ : ByteArray)) := (blk_cell BK449.out 5).trans rfl; have hfz30_0 := blk_frozen BK449.out 0; have hfz30_1 := blk_frozen BK449.out 1; have hfz30_2 := blk_frozen BK449.out 2; have hfz30_3 := blk_frozen BK449.out 3; have hfz30_4 := blk_frozen BK449.out 4; have hfz30_5 := blk_frozen BK449.out 5) | ((with_reducible refine gate_store (t := 34) (p := 5) rfl ?_); refine store_event (t := 34) (p := 5) (v := ?vo_w31) (w1 := ((((((w26.setCell ⟨gb449, 0, none⟩ (.string ((rd_T34 l0_0 0).f0))).setCell ⟨gb449, 1, none⟩ (.bool ((rd_T34 l0_0 0).f1))).setCell ⟨gb449, 2, none⟩ (.int .i64 ((rd_T34 l0_0 0).f2.f0))).setCell ⟨gb449, 3, none⟩ (.int .i64 ((rd_T34 l0_0 0).f2.f1))).setCell ⟨gb449, 4, none⟩ (.int .i64 ((rd_T34 l0_0 0).f2.f2))).setCell ⟨gb449, 5, none⟩ (.string ((rd_T34 l0_0 0).f2.f3)))) ?hg ?ho ?hn ?hr ?_; (case ho => rfl); (case hg => rfl); (case hn => rfl); (case hr => first | (go_simp; done) | (go_simp; rfl)); intro w31 hw; replace HO0_0 : Aside0 (Kd.V k34 34 w31 w.heap.size (fun k_ => (P0_0_ k_ ∨ w.heap.size ≤ k_) ∧ k_ ≠ gb445 ∧ k_ ≠ gb446 ∧ k_ ≠ gb447 ∧ k_ ≠ gb449) (.slice (some ad448) l0_0.length c0_0) l0_0) := ⟨(by rw [hw]; exact (by (with_reducible repeat (first | apply Kd.V_alloc | apply Kd.V_drewN | apply Kd.V_drew)); exact Kd.V_mono (vF (b := gb449) (Kd.V_mono HO0_0.out (fun k_ hk => (⟨hk, hk.2⟩ : _ ∧ k_ ≠ gb449))) (fun _ hk => hk.2)) (fun _ hk => ⟨hk.1.1.1.1.1, ⟨hk.1.1.1.1.2, ⟨hk.1.1.1.2, ⟨hk.1.1.2, hk.1.2⟩⟩⟩⟩)))⟩; replace BK445 : Aside0 (w31.heap[gb445]? = some (.cells #[.slice (some ad448) l0_0.length c0_0, .bool a0_1] 26 (0, 0))) := ⟨(by rw [hw]; exact (bF (BK445.out) NB445_449.out))⟩; replace BK446 : Aside0 (w31.heap[gb446]? = some (.cells #[.string (⟨#[]⟩ : ByteArray), .bool false, .int .i64 0, .int .i64 0, .int .i64 0, .string (⟨#[]⟩ : ByteArray)] 34 (0, 0))) := ⟨(by rw [hw]; exact (bF (BK446.out) NB446_449.out))⟩; replace BK447 : Aside0 (w31.heap[gb447]? = some (.cells #[.slice none 0 0, .bool false] 26 (0, 0))) := ⟨(by rw [hw]; exact (bF (BK447.out) NB447_449.out))⟩; replace BK449 : Aside0 (w31.heap[gb449]? = some (.cells #[.string ((rd_T34 l0_0 0).f0), .bool ((rd_T34 l0_0 0).f1), .int .i64 ((rd_T34 l0_0 0).f2.f0), .int .i64 ((rd_T34 l0_0 0).f2.f1), .int .i64 ((rd_T34 l0_0 0).f2.f2), .string ((rd_T34 l0_0 0).f2.f3)] 34 (0, 0))) := ⟨(by rw [hw]; exact (bS (blk_put (bS (blk_put (bS (blk_put (bS (blk_put (bS (blk_put (bS (blk_put (bS BK449.out) 0 _ rfl)) 1 _ rfl)) 2 _ rfl)) 3 _ rfl)) 4 _ rfl)) 5 _ rfl)))⟩; replace HB : Aside0 (Below w.heap.size w w31) := ⟨(by rw [hw]; exact (hF HB.out GE449.out))⟩; clear hw; have hcz32_0 : w31.cell? ⟨gb445, 0, none⟩ = some (.slice (some ad448) l0_0.length c0_0) := (blk_cell BK445.out 0).trans rfl; have hcz32_1 : w31.cell? ⟨gb445, 1, none⟩ = some (.bool a0_1) := (blk_cell BK445.out 1).trans rfl; have hfz32_0 := blk_frozen BK445.out 0; have hfz32_1 := blk_frozen BK445.out 1; have q33 : (1 : Int) ≤ ((l0_0.length : Int) : Int) := of_decide_eq_true (by first | (with_reducible assumption) | assumption); obtain ⟨i033, hi033, _, hsz33, _⟩ := info_parts info34; have hroom33 : l0_0.length ≤ c0_0 := (Kd.V_reads' HO0_0.out).2.1; have hC33 : Kd.F k34 _ _ (some ad448) l0_0.length l0_0 := (Kd.V_at (base := w.heap.size) HO0_0.out).2.2; have hcut33 := cut_from (P := Try.prog) 24 34 .i64 Try.underlying24 hi033 6 hsz33 (some ad448) l0_0.length c0_0 1 (by omega) q33; have hr33 := Kd.F_cut (m := (1 : Int).toNat) (c := c0_0) hC33 (by omega) hroom33; obtain ⟨A33, hA33⟩ : ∃ A1, A1 = (if c0_0 = (1 : Int).toNat then (some ad448) else ((some ad448) : Option Addr).map (·.add ((1 : Int).toNat * 6))) := ⟨_, rfl⟩; obtain ⟨c33, hc33⟩ : ∃ c1, c1 = c0_0 - (1 : Int).toNat := ⟨_, rfl⟩; have hy33 : y450.length = l0_0.length - (1 : Int).toNat := (by rw [Ny450.out, List.length_drop] <;> omega); rw [show (l0_0).drop (1 : Int).toNat = y450 from Ny450.out.symm] at hr33; replace hr33 : Kd.F k34 _ _ A33 y450.length y450 := (by rw [hA33]; exact hr33); rw [← hy33, ← hA33, ← hc33] at hcut33; have HO454 := Aside0.mk (show Kd.V k34 34 _ w.heap.size _ (.slice A33 y450.length c33) y450 from Kd.V_mk (by rw [hy33, hc33]; exact Nat.sub_le_sub_right hroom33 _) hr33); have HC454 := Aside0.mk (show y450.length ≤ c33 from by rw [hy33, hc33]; exact Nat.sub_le_sub_right hroom33 _); clear hr33 hC33 hroom33 hi033 hsz33 hc33; have KY33 := Aside0.mk hy33; have KA33 := Aside0.mk hA33; clear hy33 hA33; replace q33 := eq_true q33))
    have n0_ : Aside0 (Kd.V k34 34 (w31.setCell ⟨gb445, 0, none⟩ (.slice A33 y450.length c33)) w.heap.size (fun k_ => (P0_0_ k_ ∨ w.heap.size ≤ k_) ∧ k_ ≠ gb445 ∧ k_ ≠ gb446 ∧ k_ ≠ gb447 ∧ k_ ≠ gb449) (.slice (some ad448) l0_0.length c0_0) l0_0) := ⟨by (with_reducible repeat (first | apply Kd.V_alloc | apply Kd.V_drewN | apply Kd.V_drew)); exact Kd.V_mono (vF (b := gb445) (Kd.V_mono HO0_0.out (fun k_ hk => (⟨hk, hk.2.1⟩ : _ ∧ k_ ≠ gb445))) (fun _ hk => hk.2)) (fun _ hk => ⟨hk.1.1, ⟨hk.1.2.1, ⟨hk.1.2.2.1, ⟨hk.1.2.2.2.1, hk.1.2.2.2.2⟩⟩⟩⟩)⟩
    have n1_ : Aside0 (Kd.V k34 34 (w31.setCell ⟨gb445, 0, none⟩ (.slice A33 y450.length c33)) w.heap.size (fun k_ => (P0_0_ k_ ∨ w.heap.size ≤ k_) ∧ k_ ≠ gb445 ∧ k_ ≠ gb446 ∧ k_ ≠ gb447 ∧ k_ ≠ gb449) (.slice A33 y450.length c33) y450) := ⟨by (with_reducible repeat (first | apply Kd.V_alloc | apply Kd.V_drewN | apply Kd.V_drew)); exact Kd.V_mono (vF (b := gb445) (Kd.V_mono HO454.out (fun k_ hk => (⟨hk, hk.2.1⟩ : _ ∧ k_ ≠ gb445))) (fun _ hk => hk.2)) (fun _ hk => ⟨hk.1.1, ⟨hk.1.2.1, ⟨hk.1.2.2.1, ⟨hk.1.2.2.2.1, hk.1.2.2.2.2⟩⟩⟩⟩)⟩
    have n2_ : Aside0 ((w31.setCell ⟨gb445, 0, none⟩ (.slice A33 y450.length c33)).heap[gb445]? = some (.cells #[.slice A33 y450.length c33, .bool a0_1] 26 (0, 0))) := ⟨by refine bS ?_; refine blk_put (cs := #[.slice (some ad448) l0_0.length c0_0, .bool a0_1]) ?_ 0 _ rfl; refine bS ?_; exact BK445.out⟩
    have n3_ : Aside0 ((w31.setCell ⟨gb445, 0, none⟩ (.slice A33 y450.length c33)).heap[gb446]? = some (.cells #[.string (⟨#[]⟩ : ByteArray), .bool false, .int .i64 0, .int .i64 0, .int .i64 0, .string (⟨#[]⟩ : ByteArray)] 34 (0, 0))) := ⟨bF (BK446.out) NB446_445.out⟩
    have n4_ : Aside0 ((w31.setCell ⟨gb445, 0, none⟩ (.slice A33 y450.length c33)).heap[gb447]? = some (.cells #[.slice none 0 0, .bool false] 26 (0, 0))) := ⟨bF (BK447.out) NB447_445.out⟩
    have n5_ : Aside0 ((w31.setCell ⟨gb445, 0, none⟩ (.slice A33 y450.length c33)).heap[gb449]? = some (.cells #[.string ((rd_T34 l0_0 0).f0), .bool ((rd_T34 l0_0 0).f1), .int .i64 ((rd_T34 l0_0 0).f2.f0), .int .i64 ((rd_T34 l0_0 0).f2.f1), .int .i64 ((rd_T34 l0_0 0).f2.f2), .string ((rd_T34 l0_0 0).f2.f3)] 34 (0, 0))) := ⟨bF (BK449.out) NB449_445.out⟩
    have n6_ : Aside0 (Below w.heap.size w (w31.setCell ⟨gb445, 0, none⟩ (.slice A33 y450.length c33))) := ⟨by repeat (first | (with_reducible first | exact HB.out | apply below_alloc | apply pw_below_drewN | apply below_drew1 | refine below_set ?_ GE445.out | refine below_set ?_ GE446.out | refine below_set ?_ GE447.out | refine below_set ?_ GE449.out) | exact HB.out)⟩
    (try clear HO0_0)
    (try clear HO454)
    (try clear BK445)
    (try clear BK446)
    (try clear BK447)
    (try clear BK449)
    (try clear HB)
    generalize (w31.setCell ⟨gb445, 0, none⟩ (.slice A33 y450.length c33)) = w34 at n0_ n1_ n2_ n3_ n4_ n5_ n6_ ⊢
    have HO0_0 := n0_
    have HO454 := n1_
    have BK445 := n2_
    have BK446 := n3_
    have BK447 := n4_
    have BK449 := n5_
    have HB := n6_
    clear n0_ n1_ n2_ n3_ n4_ n5_ n6_
    replace HO0_0 := Aside0.mk (Kd.V_drew HO0_0.out)
    replace HO454 := Aside0.mk (Kd.V_drew HO454.out)
    replace BK445 := Aside0.mk (blk_drew BK445.out)
    replace BK446 := Aside0.mk (blk_drew BK446.out)
    replace BK447 := Aside0.mk (blk_drew BK447.out)
    replace BK449 := Aside0.mk (blk_drew BK449.out)
    replace HB := Aside0.mk (below_drew1 HB.out)
    refine start_ (n := 5) (S := fun w' => w'.cell? ⟨gb449, 0, none⟩ = some (.string ((rd_T34 l0_0 0).f0)) ∧ w'.cell? ⟨gb449, 1, none⟩ = some (.bool ((rd_T34 l0_0 0).f1)) ∧ w'.cell? ⟨gb449, 2, none⟩ = some (.int .i64 ((rd_T34 l0_0 0).f2.f0)) ∧ w'.cell? ⟨gb449, 3, none⟩ = some (.int .i64 ((rd_T34 l0_0 0).f2.f1)) ∧ w'.cell? ⟨gb449, 4, none⟩ = some (.int .i64 ((rd_T34 l0_0 0).f2.f2)) ∧ w'.cell? ⟨gb449, 5, none⟩ = some (.string ((rd_T34 l0_0 0).f2.f3)) ∧ w'.cell? ⟨gb445, 0, none⟩ = some (.slice A33 y450.length c33) ∧ w'.cell? ⟨gb445, 1, none⟩ = some (.bool a0_1)) (ds := []) #[false, false, false, false, false] (by kernel_rfl) rfl rfl ⟨(blk_cell BK449.out 0).trans rfl, (blk_cell BK449.out 1).trans rfl, (blk_cell BK449.out 2).trans rfl, (blk_cell BK449.out 3).trans rfl, (blk_cell BK449.out 4).trans rfl, (blk_cell BK449.out 5).trans rfl, (blk_cell BK445.out 0).trans rfl, (blk_cell BK445.out 1).trans rfl⟩ (fun hHeld => ?_)
    generalize w34.drew = w35 at HO0_0 HO454 BK445 BK446 BK447 BK449 HB hHeld ⊢
    refine take_ (i := 0) (N := some 20) (v := ?_) (a' := ?_) #[true, false, false, false, false] rfl rfl (by kernel_rfl) (fun _ _ _ h => h) (Or.inl ⟨by rfl, ?_⟩) hHeld ?_ ?_
    rotate_left
    ·rintro w' ⟨s0, s1, s2, s3, s4, s5, s6, s7⟩
     go_simp
     with_reducible rfl
    rotate_left
    ·simp only [Act.put, List.setIfInBounds_toArray, List.set_cons_zero, List.set_cons_succ, i64_w, i32_w]
     rfl
    refine take_ (i := 1) (N := some 21) (v := ?_) (a' := ?_) #[true, true, false, false, false] rfl rfl (by kernel_rfl) (fun _ _ _ h => h) (Or.inl ⟨by rfl, ?_⟩) hHeld ?_ ?_
    rotate_left
    ·rintro w' ⟨s0, s1, s2, s3, s4, s5, s6, s7⟩
     go_simp
     with_reducible rfl
    rotate_left
    ·simp only [Act.put, List.setIfInBounds_toArray, List.set_cons_zero, List.set_cons_succ, i64_w, i32_w]
     rfl
    refine one_ (i := 2) (N := none) #[true, true, true, false, false] rfl rfl (by kernel_rfl) (by decide) (fun K hK => ?_)
    have hs36 : w35.cell? ⟨gb446, 0, none⟩ = some (.string (⟨#[]⟩ : ByteArray)) := (blk_cell BK446.out 0).trans rfl
    have hfs36 := blk_frozen BK446.out 0
    have hns36_0 := NB445_446.out
    have hns36_2 := NB447_446.out
    have hns36_3 := NB449_446.out
    have hms36_0 := NB446_445.out
    have hms36_2 := NB446_447.out
    have hms36_3 := NB446_449.out
    have hs37 : w35.cell? ⟨gb446, 1, none⟩ = some (.bool false) := (blk_cell BK446.out 1).trans rfl
    have hfs37 := blk_frozen BK446.out 1
    have hns37_0 := NB445_446.out
    have hns37_2 := NB447_446.out
    have hns37_3 := NB449_446.out
    have hms37_0 := NB446_445.out
    have hms37_2 := NB446_447.out
    have hms37_3 := NB446_449.out
    have hs38 : w35.cell? ⟨gb446, 2, none⟩ = some (.int .i64 0) := (blk_cell BK446.out 2).trans rfl
    have hfs38 := blk_frozen BK446.out 2
    have hns38_0 := NB445_446.out
    have hns38_2 := NB447_446.out
    have hns38_3 := NB449_446.out
    have hms38_0 := NB446_445.out
    have hms38_2 := NB446_447.out
    have hms38_3 := NB446_449.out
    have hs39 : w35.cell? ⟨gb446, 3, none⟩ = some (.int .i64 0) := (blk_cell BK446.out 3).trans rfl
    have hfs39 := blk_frozen BK446.out 3
    have hns39_0 := NB445_446.out
    have hns39_2 := NB447_446.out
    have hns39_3 := NB449_446.out
    have hms39_0 := NB446_445.out
    have hms39_2 := NB446_447.out
    have hms39_3 := NB446_449.out
    have hs40 : w35.cell? ⟨gb446, 4, none⟩ = some (.int .i64 0) := (blk_cell BK446.out 4).trans rfl
    have hfs40 := blk_frozen BK446.out 4
    have hns40_0 := NB445_446.out
    have hns40_2 := NB447_446.out
    have hns40_3 := NB449_446.out
    have hms40_0 := NB446_445.out
    have hms40_2 := NB446_447.out
    have hms40_3 := NB446_449.out
    have hs41 : w35.cell? ⟨gb446, 5, none⟩ = some (.string (⟨#[]⟩ : ByteArray)) := (blk_cell BK446.out 5).trans rfl
    have hfs41 := blk_frozen BK446.out 5
    have hns41_0 := NB445_446.out
    have hns41_2 := NB447_446.out
    have hns41_3 := NB449_446.out
    have hms41_0 := NB446_445.out
    have hms41_2 := NB446_447.out
    have hms41_3 := NB446_449.out
    refine skip_ (w1 := ?_) (by rfl) rfl ?_ ?_
    rotate_left
    ·go_simp
     rfl
    refine hK.out _ _ ⟨((cell_far (p := ⟨gb446, _, none⟩) NB449_446.out _).trans (((cell_far (p := ⟨gb446, _, none⟩) NB449_446.out _).trans (((cell_far (p := ⟨gb446, _, none⟩) NB449_446.out _).trans (((cell_far (p := ⟨gb446, _, none⟩) NB449_446.out _).trans (((cell_far (p := ⟨gb446, _, none⟩) NB449_446.out _).trans (((cell_far (p := ⟨gb446, _, none⟩) NB449_446.out _).trans (hHeld.1)))))))))))), ((cell_far (p := ⟨gb446, _, none⟩) NB449_446.out _).trans (((cell_far (p := ⟨gb446, _, none⟩) NB449_446.out _).trans (((cell_far (p := ⟨gb446, _, none⟩) NB449_446.out _).trans (((cell_far (p := ⟨gb446, _, none⟩) NB449_446.out _).trans (((cell_far (p := ⟨gb446, _, none⟩) NB449_446.out _).trans (((cell_far (p := ⟨gb446, _, none⟩) NB449_446.out _).trans (hHeld.2.1)))))))))))), ((cell_far (p := ⟨gb446, _, none⟩) NB449_446.out _).trans (((cell_far (p := ⟨gb446, _, none⟩) NB449_446.out _).trans (((cell_far (p := ⟨gb446, _, none⟩) NB449_446.out _).trans (((cell_far (p := ⟨gb446, _, none⟩) NB449_446.out _).trans (((cell_far (p := ⟨gb446, _, none⟩) NB449_446.out _).trans (((cell_far (p := ⟨gb446, _, none⟩) NB449_446.out _).trans (hHeld.2.2.1)))))))))))), ((cell_far (p := ⟨gb446, _, none⟩) NB449_446.out _).trans (((cell_far (p := ⟨gb446, _, none⟩) NB449_446.out _).trans (((cell_far (p := ⟨gb446, _, none⟩) NB449_446.out _).trans (((cell_far (p := ⟨gb446, _, none⟩) NB449_446.out _).trans (((cell_far (p := ⟨gb446, _, none⟩) NB449_446.out _).trans (((cell_far (p := ⟨gb446, _, none⟩) NB449_446.out _).trans (hHeld.2.2.2.1)))))))))))), ((cell_far (p := ⟨gb446, _, none⟩) NB449_446.out _).trans (((cell_far (p := ⟨gb446, _, none⟩) NB449_446.out _).trans (((cell_far (p := ⟨gb446, _, none⟩) NB449_446.out _).trans (((cell_far (p := ⟨gb446, _, none⟩) NB449_446.out _).trans (((cell_far (p := ⟨gb446, _, none⟩) NB449_446.out _).trans (((cell_far (p := ⟨gb446, _, none⟩) NB449_446.out _).trans (hHeld.2.2.2.2.1)))))))))))), ((cell_far (p := ⟨gb446, _, none⟩) NB449_446.out _).trans (((cell_far (p := ⟨gb446, _, none⟩) NB449_446.out _).trans (((cell_far (p := ⟨gb446, _, none⟩) NB449_446.out _).trans (((cell_far (p := ⟨gb446, _, none⟩) NB449_446.out _).trans (((cell_far (p := ⟨gb446, _, none⟩) NB449_446.out _).trans (((cell_far (p := ⟨gb446, _, none⟩) NB449_446.out _).trans (hHeld.2.2.2.2.2.1)))))))))))), ((cell_far (p := ⟨gb446, _, none⟩) NB445_446.out _).trans (((cell_far (p := ⟨gb446, _, none⟩) NB445_446.out _).trans (((cell_far (p := ⟨gb446, _, none⟩) NB445_446.out _).trans (((cell_far (p := ⟨gb446, _, none⟩) NB445_446.out _).trans (((cell_far (p := ⟨gb446, _, none⟩) NB445_446.out _).trans (((cell_far (p := ⟨gb446, _, none⟩) NB445_446.out _).trans (hHeld.2.2.2.2.2.2.1)))))))))))), ((cell_far (p := ⟨gb446, _, none⟩) NB445_446.out _).trans (((cell_far (p := ⟨gb446, _, none⟩) NB445_446.out _).trans (((cell_far (p := ⟨gb446, _, none⟩) NB445_446.out _).trans (((cell_far (p := ⟨gb446, _, none⟩) NB445_446.out _).trans (((cell_far (p := ⟨gb446, _, none⟩) NB445_446.out _).trans (((cell_far (p := ⟨gb446, _, none⟩) NB445_446.out _).trans (hHeld.2.2.2.2.2.2.2))))))))))))⟩ (fun hHeld => ?_)
    clear hK K
    clear hs36 hfs36 hns36_0 hns36_2 hns36_3 hms36_0 hms36_2 hms36_3 hs37 hfs37 hns37_0 hns37_2 hns37_3 hms37_0 hms37_2 hms37_3 hs38 hfs38 hns38_0 hns38_2 hns38_3 hms38_0 hms38_2 hms38_3 hs39 hfs39 hns39_0 hns39_2 hns39_3 hms39_0 hms39_2 hms39_3 hs40 hfs40 hns40_0 hns40_2 hns40_3 hms40_0 hms40_2 hms40_3 hs41 hfs41 hns41_0 hns41_2 hns41_3 hms41_0 hms41_2 hms41_3
    generalize hq_ : ((((((w35.setCell ⟨gb446, 0, none⟩ (.string ((rd_T34 l0_0 0).f0))).setCell ⟨gb446, 1, none⟩ (.bool ((rd_T34 l0_0 0).f1))).setCell ⟨gb446, 2, none⟩ (.int .i64 ((rd_T34 l0_0 0).f2.f0))).setCell ⟨gb446, 3, none⟩ (.int .i64 ((rd_T34 l0_0 0).f2.f1))).setCell ⟨gb446, 4, none⟩ (.int .i64 ((rd_T34 l0_0 0).f2.f2))).setCell ⟨gb446, 5, none⟩ (.string ((rd_T34 l0_0 0).f2.f3))) = w35_c at hHeld ⊢
    have z_ := @id (((((((w35.setCell ⟨gb446, 0, none⟩ (.string ((rd_T34 l0_0 0).f0))).setCell ⟨gb446, 1, none⟩ (.bool ((rd_T34 l0_0 0).f1))).setCell ⟨gb446, 2, none⟩ (.int .i64 ((rd_T34 l0_0 0).f2.f0))).setCell ⟨gb446, 3, none⟩ (.int .i64 ((rd_T34 l0_0 0).f2.f1))).setCell ⟨gb446, 4, none⟩ (.int .i64 ((rd_T34 l0_0 0).f2.f2))).setCell ⟨gb446, 5, none⟩ (.string ((rd_T34 l0_0 0).f2.f3))).heap[gb446]? = some _) (bS (blk_put (bS (blk_put (bS (blk_put (bS (blk_put (bS (blk_put (bS (blk_put (bS BK446.out) 0 _ rfl)) 1 _ rfl)) 2 _ rfl)) 3 _ rfl)) 4 _ rfl)) 5 _ rfl)); rw [hq_] at z_; replace BK446 := Aside0.mk z_; clear z_
    have z_ := @id (((((((w35.setCell ⟨gb446, 0, none⟩ (.string ((rd_T34 l0_0 0).f0))).setCell ⟨gb446, 1, none⟩ (.bool ((rd_T34 l0_0 0).f1))).setCell ⟨gb446, 2, none⟩ (.int .i64 ((rd_T34 l0_0 0).f2.f0))).setCell ⟨gb446, 3, none⟩ (.int .i64 ((rd_T34 l0_0 0).f2.f1))).setCell ⟨gb446, 4, none⟩ (.int .i64 ((rd_T34 l0_0 0).f2.f2))).setCell ⟨gb446, 5, none⟩ (.string ((rd_T34 l0_0 0).f2.f3))).heap[gb447]? = some _) (bF BK447.out NB447_446.out); rw [hq_] at z_; replace BK447 := Aside0.mk z_; clear z_
    have z_ := @id (Kd.V _ _ ((((((w35.setCell ⟨gb446, 0, none⟩ (.string ((rd_T34 l0_0 0).f0))).setCell ⟨gb446, 1, none⟩ (.bool ((rd_T34 l0_0 0).f1))).setCell ⟨gb446, 2, none⟩ (.int .i64 ((rd_T34 l0_0 0).f2.f0))).setCell ⟨gb446, 3, none⟩ (.int .i64 ((rd_T34 l0_0 0).f2.f1))).setCell ⟨gb446, 4, none⟩ (.int .i64 ((rd_T34 l0_0 0).f2.f2))).setCell ⟨gb446, 5, none⟩ (.string ((rd_T34 l0_0 0).f2.f3))) _ _ _ _) (vF (b := gb446) (Kd.V_mono HO454.out (fun k_ hk => (⟨hk, hk.2.2.1⟩ : _ ∧ k_ ≠ gb446))) (fun _ hk => hk.2)); rw [hq_] at z_; replace HO454 := Aside0.mk z_; clear z_
    replace HB : Aside0 (Below w.heap.size w w35_c) := ⟨by rw [← hq_]; exact (by repeat (first | (with_reducible first | exact HB.out | apply below_alloc | apply pw_below_drewN | apply below_drew1 | refine below_set ?_ GE445.out | refine below_set ?_ GE446.out | refine below_set ?_ GE447.out | refine below_set ?_ GE449.out) | exact HB.out))⟩
    clear hq_
    refine one_ (i := 3) (N := none) #[true, true, true, true, false] rfl rfl (by kernel_rfl) (by decide) (fun K hK => ?_)
    have hs42 : w35_c.cell? ⟨gb447, 0, none⟩ = some (.slice none 0 0) := (blk_cell BK447.out 0).trans rfl
    have hfs42 := blk_frozen BK447.out 0
    have hns42_0 := NB445_447.out
    have hns42_1 := NB446_447.out
    have hns42_3 := NB449_447.out
    have hms42_0 := NB447_445.out
    have hms42_1 := NB447_446.out
    have hms42_3 := NB447_449.out
    have hs43 : w35_c.cell? ⟨gb447, 1, none⟩ = some (.bool false) := (blk_cell BK447.out 1).trans rfl
    have hfs43 := blk_frozen BK447.out 1
    have hns43_0 := NB445_447.out
    have hns43_1 := NB446_447.out
    have hns43_3 := NB449_447.out
    have hms43_0 := NB447_445.out
    have hms43_1 := NB447_446.out
    have hms43_3 := NB447_449.out
    refine skip_ (w1 := ?_) (by rfl) rfl ?_ ?_
    rotate_left
    ·go_simp
     rfl
    refine hK.out _ _ ⟨((cell_far (p := ⟨gb447, _, none⟩) NB449_447.out _).trans (((cell_far (p := ⟨gb447, _, none⟩) NB449_447.out _).trans (hHeld.1)))), ((cell_far (p := ⟨gb447, _, none⟩) NB449_447.out _).trans (((cell_far (p := ⟨gb447, _, none⟩) NB449_447.out _).trans (hHeld.2.1)))), ((cell_far (p := ⟨gb447, _, none⟩) NB449_447.out _).trans (((cell_far (p := ⟨gb447, _, none⟩) NB449_447.out _).trans (hHeld.2.2.1)))), ((cell_far (p := ⟨gb447, _, none⟩) NB449_447.out _).trans (((cell_far (p := ⟨gb447, _, none⟩) NB449_447.out _).trans (hHeld.2.2.2.1)))), ((cell_far (p := ⟨gb447, _, none⟩) NB449_447.out _).trans (((cell_far (p := ⟨gb447, _, none⟩) NB449_447.out _).trans (hHeld.2.2.2.2.1)))), ((cell_far (p := ⟨gb447, _, none⟩) NB449_447.out _).trans (((cell_far (p := ⟨gb447, _, none⟩) NB449_447.out _).trans (hHeld.2.2.2.2.2.1)))), ((cell_far (p := ⟨gb447, _, none⟩) NB445_447.out _).trans (((cell_far (p := ⟨gb447, _, none⟩) NB445_447.out _).trans (hHeld.2.2.2.2.2.2.1)))), ((cell_far (p := ⟨gb447, _, none⟩) NB445_447.out _).trans (((cell_far (p := ⟨gb447, _, none⟩) NB445_447.out _).trans (hHeld.2.2.2.2.2.2.2))))⟩ (fun hHeld => ?_)
    clear hK K
    refine pure_ (i := 4) (N := some 4) (v := ?_) (a' := ?_) #[true, true, true, true, true] rfl rfl (by kernel_rfl) (fun _ _ _ h => h) (Or.inl ⟨by rfl, ?_⟩) ?_ ?_
    rotate_left
    ·intro w'
     go_simp
     with_reducible rfl
    rotate_left
    ·simp only [Act.put, List.setIfInBounds_toArray, List.set_cons_zero, List.set_cons_succ, i64_w, i32_w]
     rfl
    refine done_ (by kernel_rfl) ?_
    try go_wp2
    refine bodyPost_ret (results_list (rs := [.cell 2 34, .cell 3 26, .tmp 4]) rfl (by simp) (.cell gb446 34 #[.string ((rd_T34 l0_0 0).f0), .bool ((rd_T34 l0_0 0).f1), .int .i64 ((rd_T34 l0_0 0).f2.f0), .int .i64 ((rd_T34 l0_0 0).f2.f1), .int .i64 ((rd_T34 l0_0 0).f2.f2), .string ((rd_T34 l0_0 0).f2.f3)] (0, 0) _ rfl (bF BK446.out NB446_447.out) Try.underlying34 rfl (by kernel_rfl) (.cell gb447 26 #[.slice A33 y450.length c33, .bool a0_1] (0, 0) _ rfl (bS (blk_put (bS (blk_put BK447.out 0 _ rfl)) 1 _ rfl)) Try.underlying26 rfl (by kernel_rfl) (.tmp .nil)))) rfl ?_
    exact ⟨_, by first | rfl | (simp [errW_none, errW_some] <;> rfl) | (simp [*, errW_none, errW_some] <;> rfl), by (with_reducible repeat (first | apply Kd.V_alloc | apply Kd.V_drewN | apply Kd.V_drew)); exact Kd.V_mono (vF (b := gb447) (Kd.V_mono HO454.out (fun k_ hk => (⟨hk, hk.1.2.2.2.1⟩ : _ ∧ k_ ≠ gb447))) (fun _ hk => hk.2)) (fun _ hk => hk.1.1.1), by repeat (first | (with_reducible first | exact HB.out | apply below_alloc | apply pw_below_drewN | apply below_drew1 | refine below_set ?_ GE445.out | refine below_set ?_ GE446.out | refine below_set ?_ GE447.out | refine below_set ?_ GE449.out) | exact HB.out)⟩
   ·rw [if_neg c19] at H
    exact absurd H (by simp)
  ·rw [if_neg c18] at H
   exact absurd H (by simp)

end Go.Proofs.Ytmigglldahkngaa.PA
end

section
/- link's talk, walked: what is told next. -/
namespace Go.Proofs.Ytmigglldahkngaa.XTell
open Go.RowKit Go.Proofs.YtmigglldahkngaaW.PrintWords Go.Proofs.YtmigglldahkngaaW.PrintLast Go.Proofs.YtmigglldahkngaaW.PrintMore Go.Proofs.Ytmigglldahkngaa.PA Go.Proofs.Ytmigglldahkngaa.XMem Go.Proofs.Ytmigglldahkngaa.XSum Go.Proofs.Ytmigglldahkngaa.XQuiet
set_option linter.unusedVariables false
set_option linter.unusedSimpArgs false
set_option maxRecDepth 100000
abbrev Ch := S34
abbrev kCh : Kd Ch := k34
abbrev Fr := S60
abbrev kFr : Kd Fr := k60
/-- A talk's cells. -/
abbrev tc (s : Int) (L : Value) (lat : Bool) (tok at_ : Int) (sn : Bool) (dg c0 c1 c2 c3 : Int) (V : Value) (now : Int) : Array Value :=
 #[.int .i64 s, L, .bool lat, .int .i64 tok, .int .i64 at_, .bool sn, .int .i64 dg, .int .i64 c0, .int .i64 c1, .int .i64 c2, .int .i64 c3, V, .int .i64 now]
/-- A frame's cells. -/
abbrev fc (kd sq : Int) (on : Bool) (ct : ByteArray) (v0 v1 v2 : Int) (v3 : ByteArray) (sum : Int) (T : Value) : Array Value :=
 #[.int .i64 kd, .int .i64 sq, .bool on, .string ct, .int .i64 v0, .int .i64 v1, .int .i64 v2, .string v3, .int .u64 sum, T]
abbrev TT : TypeId := 80
abbrev TF : TypeId := 60
/-- Two blocks are written; all else is as it was, but for new memory. -/
structure Tell (w0 w w' : World) (p q : Nat) (cp cq : Array Value) : Prop where
 bel : Below w0.heap.size w0 w'
 tp : w'.heap[p]? = some (.cells cp TT (0, 0))
 tq : w'.heap[q]? = some (.cells cq TF (0, 0))
 size : w.heap.size ≤ w'.heap.size
 keep : ∀ k, k < w.heap.size → k ≠ p → k ≠ q → w'.heap[k]? = w.heap[k]?
theorem Tell.start {w0 w : World} {p q : Nat} {cp cq : Array Value} (hB : Below w0.heap.size w0 w) (tp : w.heap[p]? = some (.cells cp TT (0, 0))) (tq : w.heap[q]? = some (.cells cq TF (0, 0))) : Tell w0 w w p q cp cq :=
 ⟨hB, tp, tq, Nat.le_refl _, fun _ _ _ _ => rfl⟩
theorem Tell.below {w0 w w' w2 : World} {p q : Nat} {cp cq : Array Value} (h : Tell w0 w w' p q cp cq) (hb : Below w'.heap.size w' w2) : Tell w0 w w2 p q cp cq :=
 ⟨below_step h.bel hb, blk_below h.tp hb, blk_below h.tq hb, Nat.le_trans h.size hb.size, fun k h1 h2 h3 => (hb.block k (Nat.lt_of_lt_of_le h1 h.size)).trans (h.keep k h1 h2 h3)⟩
theorem Tell.setp {w0 w w' : World} {p q : Nat} {cp cq : Array Value} (h : Tell w0 w w' p q cp cq) (hp : w0.heap.size ≤ p) (hne : p ≠ q) (i : Nat) (v : Value) : Tell w0 w (w'.setCell ⟨p, i, none⟩ v) p q (cp.setIfInBounds i v) cq :=
 ⟨below_set h.bel hp, blk_set h.tp i v, blk_far h.tq (p := ⟨p, i, none⟩) (fun e => hne e.symm) v, Nat.le_trans h.size (by simp [World.setCell]), fun k h1 h2 h3 => (Below.heap_setCell w' ⟨p, i, none⟩ v k (fun e => h2 e)).trans (h.keep k h1 h2 h3)⟩
theorem Tell.setq {w0 w w' : World} {p q : Nat} {cp cq : Array Value} (h : Tell w0 w w' p q cp cq) (hq : w0.heap.size ≤ q) (hne : p ≠ q) (i : Nat) (v : Value) : Tell w0 w (w'.setCell ⟨q, i, none⟩ v) p q cp (cq.setIfInBounds i v) :=
 ⟨below_set h.bel hq, blk_far h.tp (p := ⟨q, i, none⟩) hne v, blk_set h.tq i v, Nat.le_trans h.size (by simp [World.setCell]), fun k h1 h2 h3 => (Below.heap_setCell w' ⟨q, i, none⟩ v k (fun e => h3 e)).trans (h.keep k h1 h2 h3)⟩
theorem snapshot_no (s : Int) (L : Value) (lat : Bool) (tok at_ dg c0 c1 c2 c3 : Int) (V : Value) (now : Int) (p q : Nat) (w : World) (tp : w.heap[p]? = some (.cells (tc s L lat tok at_ false dg c0 c1 c2 c3 V now) TT (0, 0))) :
  Calls Try.prog 75 #[.pointer (some ⟨p, 0, none⟩), .pointer (some ⟨q, 0, none⟩)] w fun e w' => e = .returned (.bool false) ∧ w' = w := by
 have r5 := (blk_cell tp 5).trans rfl
 go_enter Try.func75, Try.ntmps75
 go_wp2
 go_ret
 exact ⟨rfl, rfl⟩
set_option maxHeartbeats 4000000 in
theorem snapshot_yes (s : Int) (A : Option Addr) (n cc : Nat) (lat : Bool) (tok at_ dg c0 c1 c2 c3 : Int) (B : Option Addr) (m mc : Nat) (now sq sum : Int) (on : Bool) (ct : ByteArray) (v0 v1 v2 : Int) (v3 : ByteArray) (D : Option Addr) (d dc : Nat) (kd : Int) (p q : Nat) (w0 w : World) (hB : Below w0.heap.size w0 w) (hp : w0.heap.size ≤ p) (hq : w0.heap.size ≤ q) (hne : p ≠ q)
  (tp : w.heap[p]? = some (.cells (tc s (.slice A n cc) lat tok at_ true dg c0 c1 c2 c3 (.slice B m mc) now) TT (0, 0))) (tq : w.heap[q]? = some (.cells (fc kd sq on ct v0 v1 v2 v3 sum (.slice D d dc)) TF (0, 0))) :
  Calls Try.prog 75 #[.pointer (some ⟨p, 0, none⟩), .pointer (some ⟨q, 0, none⟩)] w fun e w' => e = .returned (.bool true) ∧ Tell w0 w w' p q (tc s (.slice A n cc) lat tok at_ false now c0 c1 c2 c3 (.slice B m mc) now) (fc 3 sq on ct v0 v1 v2 v3 sum (.slice B m mc)) := by
 have H := Tell.start hB tp tq
 have r5 := (blk_cell tp 5).trans rfl
 have r12 := (blk_cell tp 12).trans rfl
 have r11 := (blk_cell tp 11).trans rfl
 have r6 := (blk_cell tp 6).trans rfl
 have z5 := blk_frozen tp 5
 have z6 := blk_frozen tp 6
 go_enter Try.func75, Try.ntmps75
 go_upto_region 4 with (fail)
 have H1 := (H.setp hp hne 5 (.bool false)).setp hp hne 6 (.int .i64 now)
 generalize (w.setCell ⟨p, 5, none⟩ (.bool false)).setCell ⟨p, 6, none⟩ (.int .i64 now) = w1 at H1 ⊢
 clear r5 r12 r11 r6 z5 z6 H tp tq hB
 have r11 := (blk_cell H1.tp 11).trans rfl
 have y0 := (blk_cell H1.tq 0).trans rfl
 have y9 := (blk_cell H1.tq 9).trans rfl
 have z0 := blk_frozen H1.tq 0
 have z9 := blk_frozen H1.tq 9
 go_upto_region 5 with (fail)
 have H2 := (H1.setq hq hne 0 (.int .i64 3)).setq hq hne 9 (.slice B m mc)
 generalize (w1.setCell ⟨q, 0, none⟩ (.int .i64 3)).setCell ⟨q, 9, none⟩ (.slice B m mc) = w2 at H2 ⊢
 clear r11 y0 y9 z0 z9 H1
 go_wp2
 go_ret
 exact ⟨rfl, H2⟩
theorem drewH (w : World) (g : Nat) : w.drew.heap[g]? = w.heap[g]? := rfl
theorem setH (w : World) {g q : Nat} (i : Nat) (v : Value) (h : g ≠ q) : (w.setCell ⟨q, i, none⟩ v).heap[g]? = w.heap[g]? := Below.heap_setCell w ⟨q, i, none⟩ v g h
theorem pop_nil (lat : Bool) : queue_Pop.f [] lat = some (⟨#[]⟩, false, 0, 0, 0, ⟨#[]⟩, [], lat, false) := by
 unfold queue_Pop.f
 rw [if_pos (by simp)]
theorem pop_cons (x : Ch) (l : List Ch) (lat : Bool) : queue_Pop.f (x :: l) lat = some (x.f0, x.f1, x.f2.f0, x.f2.f1, x.f2.f2, x.f2.f3, l, lat, true) := by
 unfold queue_Pop.f
 rw [if_neg (by simp <;> omega), if_pos (by simp <;> omega), if_pos (by simp <;> omega)]
 rfl
theorem delta_no (s : Int) (A : Option Addr) (cc : Nat) (lat : Bool) (tok at_ : Int) (sn : Bool) (dg c0 c1 c2 c3 : Int) (V : Value) (now : Int) (p q : Nat) (ok : Nat → Prop) (w : World) (tp : w.heap[p]? = some (.cells (tc s (.slice A 0 cc) lat tok at_ sn dg c0 c1 c2 c3 V now) TT (0, 0)))
  (hv : Kd.V kCh 34 w w.heap.size ok (.slice A 0 cc) []) :
  Calls Try.prog 76 #[.pointer (some ⟨p, 0, none⟩), .pointer (some ⟨q, 0, none⟩)] w fun e w' => e = .returned (.bool false) ∧ Below w.heap.size w w' := by
 have r1 := (blk_cell tp 1).trans rfl
 have r2 := (blk_cell tp 2).trans rfl
 have HP := Aside0.mk (queue_Pop.calls ok A cc [] lat _ _ _ _ _ _ _ _ _ w hv (pop_nil lat))
 clear hv tp
 go_enter Try.func76, Try.ntmps76
 go_wp2_with fail
 refine HP.out.mono ?_
 rintro e w1 ⟨v6, rfl, hV, hb⟩
 obtain ⟨A6, c6, rfl⟩ := Kd.V_slice hV
 clear hV HP r1 r2
 go_upto_region 2 with (fail)
 generalize hg : World.alloc _ _ = w2
 obtain ⟨hB', _, _⟩ := Mem.new2 hg hb (Mem.nil _)
 clear hg hb
 go_wp2
 go_ret
 exact ⟨rfl, hB'⟩
set_option maxHeartbeats 8000000 in
theorem delta_yes (s : Int) (A : Option Addr) (n cc : Nat) (lat : Bool) (tok at_ : Int) (sn : Bool) (dg c0 c1 c2 c3 : Int) (B : Option Addr) (m mc : Nat) (now sq sum : Int) (on : Bool) (ct : ByteArray) (v0 v1 v2 : Int) (v3 : ByteArray) (T : Value) (kd : Int) (p q : Nat) (w0 w : World) (hB : Below w0.heap.size w0 w) (hp : w0.heap.size ≤ p) (hq : w0.heap.size ≤ q) (hne : p ≠ q) (x : Ch) (l : List Ch)
  (tp : w.heap[p]? = some (.cells (tc s (.slice A (x :: l).length cc) lat tok at_ sn dg c0 c1 c2 c3 (.slice B m mc) now) TT (0, 0))) (tq : w.heap[q]? = some (.cells (fc kd sq on ct v0 v1 v2 v3 sum T) TF (0, 0)))
  (ok : Nat → Prop) (hok : ∀ k, ok k → k ≠ p ∧ k ≠ q) (hnew : ∀ k, w.heap.size ≤ k → ok k) (hv : Kd.V kCh 34 w w.heap.size ok (.slice A (x :: l).length cc) (x :: l)) :
  Calls Try.prog 76 #[.pointer (some ⟨p, 0, none⟩), .pointer (some ⟨q, 0, none⟩)] w fun e w' => e = .returned (.bool true) ∧ ∃ A' c', Tell w0 w w' p q (tc s (.slice A' l.length c') lat tok at_ sn dg c0 c1 c2 c3 (.slice B m mc) now) (fc 1 sq x.f1 x.f0 x.f2.f0 x.f2.f1 x.f2.f2 x.f2.f3 sum T) ∧ Kd.V kCh 34 w' 0 ok (.slice A' l.length c') l := by
 have H := Tell.start hB tp tq
 have r1 := (blk_cell tp 1).trans rfl
 have r2 := (blk_cell tp 2).trans rfl
 have HP := Aside0.mk (queue_Pop.calls ok A cc (x :: l) lat _ _ _ _ _ _ _ _ _ w hv (pop_cons x l lat))
 have hpl := blk_lt tp
 have hql := blk_lt tq
 generalize hn : (x :: l).length = n1 at r1 HP
 clear hv tp tq hB
 go_enter Try.func76, Try.ntmps76
 go_wp2_with fail
 refine HP.out.mono ?_
 rintro e w1 ⟨v6, rfl, hV, hb⟩
 obtain ⟨A6, c6, rfl⟩ := Kd.V_slice hV
 have H1 := H.below hb
 have hV1 : Kd.V kCh 34 w1 0 ok (.slice A6 l.length c6) l := Kd.V_mono hV (fun k hk => by rcases hk with h | h; exact h; exact hnew k h)
 have hz1 : w0.heap.size ≤ w1.heap.size := H1.bel.size
 clear hV HP r1 r2 hb H
 go_upto_region 2 with (fail)
 generalize hg : World.alloc _ _ = w2
 obtain ⟨_, hM, hb⟩ := Mem.new2 hg (Below.refl _ _) (Mem.nil _)
 have H2 := H1.below hb
 have hV2 := Kd.V_below hV1 hb
 have hpq : p < w1.heap.size ∧ q < w1.heap.size := ⟨blk_lt H1.tp, blk_lt H1.tq⟩
 clear hg hb H1 hV1
 generalize w1.heap.size = g5 at hM hpq ⊢
 have T6 := hM.get 0 rfl
 have T5 := hM.get 1 rfl
 have u0 := (blk_cell T6 0).trans rfl
 have u1 := (blk_cell T6 1).trans rfl
 have r1 := (blk_cell H2.tp 1).trans rfl
 have r2 := (blk_cell H2.tp 2).trans rfl
 have z1 := blk_frozen H2.tp 1
 have z2 := blk_frozen H2.tp 2
 go_upto_region 5 with (fail)
 have H3 := (H2.setp hp hne 1 (.slice A6 l.length c6)).setp hp hne 2 (.bool lat)
 have hV3 := Kd.V_far (Kd.V_far hV2 (p := ⟨p, 1, none⟩) (fun k hk => (hok k hk).1) (.slice A6 l.length c6)) (p := ⟨p, 2, none⟩) (fun k hk => (hok k hk).1) (.bool lat)
 have T5' := blk_far (blk_far T5 (p := ⟨p, 1, none⟩) (by show g5 ≠ p; omega) (.slice A6 l.length c6)) (p := ⟨p, 2, none⟩) (by show g5 ≠ p; omega) (.bool lat)
 generalize (w2.setCell ⟨p, 1, none⟩ (.slice A6 l.length c6)).setCell ⟨p, 2, none⟩ (.bool lat) = w3 at H3 hV3 T5' ⊢
 clear T5 T6 u0 u1 r1 r2 z1 z2 H2 hV2 hM
 have SS : ∀ w' : World, w'.heap[g5]? = w3.heap[g5]? → w'.cell? ⟨g5, 0, none⟩ = some (.string x.f0) ∧ w'.cell? ⟨g5, 1, none⟩ = some (.bool x.f1) ∧ w'.cell? ⟨g5, 2, none⟩ = some (.int .i64 x.f2.f0) ∧ w'.cell? ⟨g5, 3, none⟩ = some (.int .i64 x.f2.f1) ∧ w'.cell? ⟨g5, 4, none⟩ = some (.int .i64 x.f2.f2) ∧ w'.cell? ⟨g5, 5, none⟩ = some (.string x.f2.f3) := fun w' he => by
  have T := he.trans T5'
  exact ⟨(blk_cell T 0).trans rfl, (blk_cell T 1).trans rfl, (blk_cell T 2).trans rfl, (blk_cell T 3).trans rfl, (blk_cell T 4).trans rfl, (blk_cell T 5).trans rfl⟩
 have hgq : g5 ≠ q := by omega
 clear T5'
 have y0 := (blk_cell H3.tq 0).trans rfl
 have z0 := blk_frozen H3.tq 0
 have y2 := (blk_cell H3.tq 2).trans rfl
 have z2 := blk_frozen H3.tq 2
 have y3 := (blk_cell H3.tq 3).trans rfl
 have z3 := blk_frozen H3.tq 3
 have y4 := (blk_cell H3.tq 4).trans rfl
 have z4 := blk_frozen H3.tq 4
 have y5 := (blk_cell H3.tq 5).trans rfl
 have z5 := blk_frozen H3.tq 5
 have y6 := (blk_cell H3.tq 6).trans rfl
 have z6 := blk_frozen H3.tq 6
 have y7 := (blk_cell H3.tq 7).trans rfl
 have z7 := blk_frozen H3.tq 7
 go_wp2_with fail
 go_region_held3 (fun w' => w'.cell? ⟨g5, 0, none⟩ = some (.string x.f0) ∧ w'.cell? ⟨g5, 1, none⟩ = some (.bool x.f1) ∧ w'.cell? ⟨g5, 2, none⟩ = some (.int .i64 x.f2.f0) ∧ w'.cell? ⟨g5, 3, none⟩ = some (.int .i64 x.f2.f1) ∧ w'.cell? ⟨g5, 4, none⟩ = some (.int .i64 x.f2.f2) ∧ w'.cell? ⟨g5, 5, none⟩ = some (.string x.f2.f3)) (exact SS _ (by with_reducible (repeat (first | exact Eq.refl _ | exact drewH _ _ | refine (setH _ _ _ hgq).trans ?_ | refine (drewH _ _).trans ?_)))) (first | fail)
 have H4 := ((((((H3.setq hq hne 0 (.int .i64 1)).setq hq hne 3 (.string x.f0)).setq hq hne 2 (.bool x.f1)).setq hq hne 4 (.int .i64 x.f2.f0)).setq hq hne 5 (.int .i64 x.f2.f1)).setq hq hne 6 (.int .i64 x.f2.f2)).setq hq hne 7 (.string x.f2.f3)
 have hV4 := Kd.V_far (p := ⟨q, 7, none⟩) (Kd.V_far (p := ⟨q, 6, none⟩) (Kd.V_far (p := ⟨q, 5, none⟩) (Kd.V_far (p := ⟨q, 4, none⟩) (Kd.V_far (p := ⟨q, 2, none⟩) (Kd.V_far (p := ⟨q, 3, none⟩) (Kd.V_far (p := ⟨q, 0, none⟩) hV3 (fun k hk => (hok k hk).2) (.int .i64 1)) (fun k hk => (hok k hk).2) (.string x.f0)) (fun k hk => (hok k hk).2) (.bool x.f1)) (fun k hk => (hok k hk).2) (.int .i64 x.f2.f0)) (fun k hk => (hok k hk).2) (.int .i64 x.f2.f1)) (fun k hk => (hok k hk).2) (.int .i64 x.f2.f2)) (fun k hk => (hok k hk).2) (.string x.f2.f3)
 generalize hw4 : ((((((w3.setCell ⟨q, 0, none⟩ (.int .i64 1)).setCell ⟨q, 3, none⟩ (.string x.f0)).setCell ⟨q, 2, none⟩ (.bool x.f1)).setCell ⟨q, 4, none⟩ (.int .i64 x.f2.f0)).setCell ⟨q, 5, none⟩ (.int .i64 x.f2.f1)).setCell ⟨q, 6, none⟩ (.int .i64 x.f2.f2)).setCell ⟨q, 7, none⟩ (.string x.f2.f3) = w4 at H4 hV4 ⊢
 have hd : Below w4.heap.size w4 w4.drew := below_drew1 (Below.refl _ _)
 replace H4 := H4.below hd
 replace hV4 := Kd.V_below hV4 hd
 clear y0 y2 y3 y4 y5 y6 y7 z0 z2 z3 z4 z5 z6 z7 SS H3 hV3 hd hw4
 generalize w4.drew = w5 at H4 hV4 ⊢
 go_wp2
 go_ret
 exact ⟨rfl, A6, c6, H4, hV4⟩
theorem digest_no (s : Int) (L : Value) (lat : Bool) (tok at_ : Int) (sn : Bool) (dg c0 c1 c2 c3 : Int) (V : Value) (now : Int) (h0 : 0 ≤ dg) (h1 : dg ≤ 1099511627776) (h2 : 0 ≤ now) (h3 : now ≤ 1099511627776) (hd : now - dg < c3) (p q : Nat) (w : World) (tp : w.heap[p]? = some (.cells (tc s L lat tok at_ sn dg c0 c1 c2 c3 V now) TT (0, 0))) :
  Calls Try.prog 77 #[.pointer (some ⟨p, 0, none⟩), .pointer (some ⟨q, 0, none⟩)] w fun e w' => e = .returned (.bool false) ∧ Below w.heap.size w w' := by
 have r6 := (blk_cell tp 6).trans rfl
 have r12 := (blk_cell tp 12).trans rfl
 have r10 := (blk_cell tp 10).trans rfl
 have hw : IntKind.i64.wrap (now - dg) = now - dg := IntWalk.i64_in _ (by omega)
 have y6 : ∀ u : Kin w, u.at'.cell? _ = _ := Kin.cell r6
 have y12 : ∀ u : Kin w, u.at'.cell? _ = _ := Kin.cell r12
 have y10 : ∀ u : Kin w, u.at'.cell? _ = _ := Kin.cell r10
 clear h0 h1 h2 h3 r6 r12 r10
 go_enter Try.func77, Try.ntmps77
 go_wp2_with fail
 refine region_kin (by kernel_rfl) (by kernel_rfl) ?_
 repeat (go_big_quiet_step (fail))
 refine wpQuiet_nil ?_
 rintro w6 ⟨⟨_, b6⟩, rfl⟩
 clear y6 y12 y10
 go_wp2
 go_ret
 exact ⟨rfl, b6⟩
set_option maxHeartbeats 4000000 in
theorem digest_yes (s : Int) (A : Option Addr) (n cc : Nat) (lat : Bool) (tok at_ : Int) (sn : Bool) (dg c0 c1 c2 c3 : Int) (B : Option Addr) (mc : Nat) (now sq sum : Int) (h0 : 0 ≤ dg) (h1 : dg ≤ 1099511627776) (h2 : 0 ≤ now) (h3 : now ≤ 1099511627776) (hd : c3 ≤ now - dg) (on : Bool) (ct : ByteArray) (v0 v1 v2 : Int) (v3 : ByteArray) (T : Value) (kd : Int) (p q : Nat) (w0 w : World) (hB : Below w0.heap.size w0 w) (hp : w0.heap.size ≤ p) (hq : w0.heap.size ≤ q) (hne : p ≠ q)
  (k0 : Nat) (t : List Se) (hl : t.length ≤ 40) (hm : digest_May.f k0 t = some true) (hz : ∀ x ∈ t, x.f0.size ≤ 9223372036854775807)
  (tp : w.heap[p]? = some (.cells (tc s (.slice A n cc) lat tok at_ sn dg c0 c1 c2 c3 (.slice B t.length mc) now) TT (0, 0))) (tq : w.heap[q]? = some (.cells (fc kd sq on ct v0 v1 v2 v3 sum T) TF (0, 0)))
  (hv : Kd.V kSe 72 w 0 (fun k => k ≠ p) (.slice B t.length mc) t) :
  Calls Try.prog 77 #[.pointer (some ⟨p, 0, none⟩), .pointer (some ⟨q, 0, none⟩)] w fun e w' => e = .returned (.bool true) ∧ Tell w0 w w' p q (tc s (.slice A n cc) lat tok at_ sn now c0 c1 c2 c3 (.slice B t.length mc) now) (fc 2 sq on ct v0 v1 v2 v3 (sumB t) T) := by
 have H := Tell.start hB tp tq
 have r6 := (blk_cell tp 6).trans rfl
 have r12 := (blk_cell tp 12).trans rfl
 have r10 := (blk_cell tp 10).trans rfl
 have z6 := blk_frozen tp 6
 have hw : IntKind.i64.wrap (now - dg) = now - dg := IntWalk.i64_in _ (by omega)
 have HS := Aside0.mk (fun w h => sum_calls k0 t hl hm hz w (.slice B t.length mc) h)
 have y6 : ∀ u : Kin w, u.at'.cell? _ = _ := Kin.cell r6
 have y12 : ∀ u : Kin w, u.at'.cell? _ = _ := Kin.cell r12
 have y10 : ∀ u : Kin w, u.at'.cell? _ = _ := Kin.cell r10
 clear h0 h1 h2 h3 tp tq hB hm hz hl r6 r12 r10 z6
 go_enter Try.func77, Try.ntmps77
 go_wp2_with fail
 refine region_kin (by kernel_rfl) (by kernel_rfl) ?_
 repeat (go_big_quiet_step (fail))
 refine wpQuiet_nil ?_
 rintro w1 ⟨⟨_, b6⟩, rfl⟩
 rename World => w1
 clear y6 y12 y10
 have H1 := H.below b6
 have hv1 := Kd.V_below hv b6
 clear b6 H hv
 have r6 := (blk_cell H1.tp 6).trans rfl
 have r12 := (blk_cell H1.tp 12).trans rfl
 have z6 := blk_frozen H1.tp 6
 go_upto_region 4 with (fail)
 have H2 := H1.setp hp hne 6 (.int .i64 now)
 have hv2 := Kd.V_far hv1 (p := ⟨p, 6, none⟩) (fun k hk => hk) (.int .i64 now)
 generalize w1.setCell ⟨p, 6, none⟩ (.int .i64 now) = w2 at H2 hv2 ⊢
 clear r6 r12 z6 H1 hv1
 have r11 := (blk_cell H2.tp 11).trans rfl
 go_wp2_with fail
 refine (HS.out w2 (Im.of_V hv2)).mono ?_
 rintro e w3 ⟨rfl, hb⟩
 have H3 := H2.below hb
 clear hb hv2 H2 HS r11
 have y0 := (blk_cell H3.tq 0).trans rfl
 have y8 := (blk_cell H3.tq 8).trans rfl
 have z0 := blk_frozen H3.tq 0
 have z8 := blk_frozen H3.tq 8
 generalize hsm : sumB t = sm at H3 ⊢
 go_upto_region 5 with (fail)
 have H4 := (H3.setq hq hne 0 (.int .i64 2)).setq hq hne 8 (.int .u64 sm)
 generalize (w3.setCell ⟨q, 0, none⟩ (.int .i64 2)).setCell ⟨q, 8, none⟩ (.int .u64 sm) = w4 at H4 ⊢
 clear y0 y8 z0 z8 H3
 go_wp2
 go_ret
 subst hsm
 exact ⟨rfl, H4⟩
end Go.Proofs.Ytmigglldahkngaa.XTell
end

section
/- link's talk, walked: the next frame, if something is to be told. -/
namespace Go.Proofs.Ytmigglldahkngaa.XTell
open Go.RowKit Go.Proofs.YtmigglldahkngaaW.PrintWords Go.Proofs.YtmigglldahkngaaW.PrintLast Go.Proofs.YtmigglldahkngaaW.PrintMore Go.Proofs.Ytmigglldahkngaa.PA Go.Proofs.Ytmigglldahkngaa.XMem Go.Proofs.Ytmigglldahkngaa.XSum Go.Proofs.Ytmigglldahkngaa.XQuiet
set_option linter.unusedVariables false
set_option linter.unusedSimpArgs false
set_option maxRecDepth 100000
theorem idx0 (a b c : Value) (w : World) : (Instr.index 108 (.agg #[a, b, c]) (.int .i64 0)).run Try.prog w = .ok a w := by
 have h := Try.underlying108
 have hz := Try.sizeOf107 w
 simp [Instr.index, run_underlying h, asIntOf, go_sem, hz, part]
theorem idx1 (a b c : Value) (w : World) : (Instr.index 108 (.agg #[a, b, c]) (.int .i64 1)).run Try.prog w = .ok b w := by
 have h := Try.underlying108
 have hz := Try.sizeOf107 w
 simp [Instr.index, run_underlying h, asIntOf, go_sem, hz, part]
theorem idx2 (a b c : Value) (w : World) : (Instr.index 108 (.agg #[a, b, c]) (.int .i64 2)).run Try.prog w = .ok c w := by
 have h := Try.underlying108
 have hz := Try.sizeOf107 w
 simp [Instr.index, run_underlying h, asIntOf, go_sem, hz, part]
attribute [local go_sem] idx0 idx1 idx2
/-- One block is written; all else is as it was, but for new memory. -/
structure Next (w0 w w' : World) (p : Nat) (cp : Array Value) : Prop where
 bel : Below w0.heap.size w0 w'
 tp : w'.heap[p]? = some (.cells cp TT (0, 0))
 size : w.heap.size ≤ w'.heap.size
 keep : ∀ k, k < w.heap.size → k ≠ p → w'.heap[k]? = w.heap[k]?
theorem Next.of {w0 w w1 w' : World} {p q : Nat} {cp cq : Array Value} (h : Tell w0 w1 w' p q cp cq) (hb : Below w.heap.size w w1) (hq : w.heap.size ≤ q) : Next w0 w w' p cp :=
 ⟨h.bel, h.tp, Nat.le_trans hb.size h.size, fun k h1 h2 => (h.keep k (Nat.lt_of_lt_of_le h1 hb.size) h2 (by omega)).trans (hb.block k h1)⟩
theorem Next.setp {w0 w w' : World} {p : Nat} {cp : Array Value} (h : Next w0 w w' p cp) (hp : w0.heap.size ≤ p) (i : Nat) (v : Value) : Next w0 w (w'.setCell ⟨p, i, none⟩ v) p (cp.setIfInBounds i v) :=
 ⟨below_set h.bel hp, blk_set h.tp i v, Nat.le_trans h.size (by simp [World.setCell]), fun k h1 h2 => (Below.heap_setCell w' ⟨p, i, none⟩ v k (fun e => h2 e)).trans (h.keep k h1 h2)⟩
theorem Next.setq {w0 w w' : World} {p q : Nat} {cp : Array Value} (h : Next w0 w w' p cp) (hq : w.heap.size ≤ q) (hq0 : w0.heap.size ≤ q) (hne : p ≠ q) (i : Nat) (v : Value) : Next w0 w (w'.setCell ⟨q, i, none⟩ v) p cp :=
 ⟨below_set h.bel hq0, blk_far h.tp (p := ⟨q, i, none⟩) hne v, Nat.le_trans h.size (by simp [World.setCell]), fun k h1 h2 => (Below.heap_setCell w' ⟨q, i, none⟩ v k (by show k ≠ q; omega)).trans (h.keep k h1 h2)⟩
theorem Next.below {w0 w w' w2 : World} {p : Nat} {cp : Array Value} (h : Next w0 w w' p cp) (hb : Below w'.heap.size w' w2) : Next w0 w w2 p cp :=
 ⟨below_step h.bel hb, blk_below h.tp hb, Nat.le_trans h.size hb.size, fun k h1 h2 => (hb.block k (Nat.lt_of_lt_of_le h1 h.size)).trans (h.keep k h1 h2)⟩

set_option maxHeartbeats 8000000 in
theorem next_snap (s : Int) (A : Option Addr) (n cc : Nat) (tok at_ dg c0 c1 c2 c3 : Int) (B : Option Addr) (m mc : Nat) (now : Int) (p : Nat) (w0 w : World) (hB : Below w0.heap.size w0 w) (hp : w0.heap.size ≤ p) (hs0 : 0 ≤ s) (hs : s < 1099511627776)
  (tp : w.heap[p]? = some (.cells (tc s (.slice A n cc) false tok at_ true dg c0 c1 c2 c3 (.slice B m mc) now) TT (0, 0))) :
  Calls Try.prog 52 #[.pointer (some ⟨p, 0, none⟩)] w fun e w' => e = .returned (.tuple #[.agg #[(.int .i64 3), (.int .i64 s), (.bool false), (.string ⟨#[]⟩), (.int .i64 0), (.int .i64 0), (.int .i64 0), (.string ⟨#[]⟩), (.int .u64 0), (.slice B m mc)], .bool true]) ∧ Next w0 w w' p (tc (s + 1) (.slice A n cc) false tok at_ false now c0 c1 c2 c3 (.slice B m mc) now) := by
 have r0 := (blk_cell tp 0).trans rfl
 have hpl := blk_lt tp
 go_enter Try.func52, Try.ntmps52
 go_upto_region 1 with (fail)
 generalize hg : World.alloc _ _ = w1
 have hb1 := al_below hg
 have T2 := al_new hg
 have tp1 := blk_below tp hb1
 have hB1 := below_step hB hb1
 have hwz := hB.size
 have r0' := pw_cell_below hb1 r0
 clear hg r0 hB
 obtain ⟨p2, hp2⟩ : ∃ x, x = w.heap.size := ⟨_, rfl⟩
 rw [← hp2] at T2
 rw [← hp2]
 have hlt2 := blk_lt T2
 go_upto_region 2 with (fail)
 generalize hg : World.alloc _ _ = w2
 have hb2 := al_below hg
 have T4 := al_new hg
 have tp2 := blk_below tp1 hb2
 have T2' := blk_below T2 hb2
 have hB2 := below_step hB1 hb2
 have hbw := below_step hb1 hb2
 clear hg r0' hB1 tp1 T2
 obtain ⟨q, hq⟩ : ∃ x, x = w1.heap.size := ⟨_, rfl⟩
 rw [← hq] at T4
 rw [← hq]
 have hne : p ≠ q := by omega
 have hq0 : w0.heap.size ≤ q := by omega
 have hqw : w.heap.size ≤ q := by omega
 have hpq : p2 ≠ q := by omega
 have hpp : p ≠ p2 := by omega
 have hpw : w.heap.size ≤ p2 := by omega
 have hp0 : w0.heap.size ≤ p2 := by omega
 have hqp : ∀ k, k < w.heap.size → k ≠ q ∧ k ≠ p2 := fun k hk => ⟨by omega, by omega⟩
 clear hq hp2 hlt2 hwz
 go_wp2
 refine wp_loop_rounds 4 ?_
 rw [rounds_succ]
 go_wp2_with fail
 refine (snapshot_yes s A n cc false tok at_ dg c0 c1 c2 c3 B m mc now s 0 false ⟨#[]⟩ 0 0 0 ⟨#[]⟩ none 0 0 0 p q w0 w2 hB2 hp hq0 hne tp2 T4).mono ?_
 rintro e w3 ⟨rfl, H⟩
 have T2n := (H.keep p2 (blk_lt T2') (fun e => hpp e.symm) hpq).trans T2'
 have Tq := H.tq
 have HN := Next.of H hbw hqw
 clear H T2' T4 hB2 hbw
 have hw : wrap64 (s + 1) = s + 1 := by unfold wrap64; omega
 have r0 := (blk_cell HN.tp 0).trans rfl
 have z0 := blk_frozen HN.tp 0
 go_upto_region 7 with (fail)
 have HN2 := HN.setp hp 0 (.int .i64 (s + 1))
 have Tq2 := blk_far Tq (p := ⟨p, 0, none⟩) (fun e => hne e.symm) (.int .i64 (s + 1))
 have T22 := blk_far T2n (p := ⟨p, 0, none⟩) (fun e => hpp e.symm) (.int .i64 (s + 1))
 generalize w3.setCell ⟨p, 0, none⟩ (.int .i64 (s + 1)) = w6 at HN2 Tq2 T22 ⊢
 clear HN Tq T2n r0 z0
 have y0 := (blk_cell Tq2 0).trans rfl
 have y1 := (blk_cell Tq2 1).trans rfl
 have y2 := (blk_cell Tq2 2).trans rfl
 have y3 := (blk_cell Tq2 3).trans rfl
 have y4 := (blk_cell Tq2 4).trans rfl
 have y5 := (blk_cell Tq2 5).trans rfl
 have y6 := (blk_cell Tq2 6).trans rfl
 have y7 := (blk_cell Tq2 7).trans rfl
 have y8 := (blk_cell Tq2 8).trans rfl
 have y9 := (blk_cell Tq2 9).trans rfl
 have k0 := (blk_cell T22 0).trans rfl
 have z0 := blk_frozen T22 0
 have k1 := (blk_cell T22 1).trans rfl
 have z1 := blk_frozen T22 1
 have k2 := (blk_cell T22 2).trans rfl
 have z2 := blk_frozen T22 2
 have k3 := (blk_cell T22 3).trans rfl
 have z3 := blk_frozen T22 3
 have k4 := (blk_cell T22 4).trans rfl
 have z4 := blk_frozen T22 4
 have k5 := (blk_cell T22 5).trans rfl
 have z5 := blk_frozen T22 5
 have k6 := (blk_cell T22 6).trans rfl
 have z6 := blk_frozen T22 6
 have k7 := (blk_cell T22 7).trans rfl
 have z7 := blk_frozen T22 7
 have k8 := (blk_cell T22 8).trans rfl
 have z8 := blk_frozen T22 8
 have k9 := (blk_cell T22 9).trans rfl
 have z9 := blk_frozen T22 9
 go_wp2
 have b0 : (w6.setCell ⟨p2, 0, none⟩ (.int .i64 3)).heap[p2]? = some (.cells #[(.int .i64 3), (.int .i64 0), (.bool false), (.string ⟨#[]⟩), (.int .i64 0), (.int .i64 0), (.int .i64 0), (.string ⟨#[]⟩), (.int .u64 0), (.slice none 0 0)] TF (0, 0)) := blk_set T22 0 _
 have n0 := HN2.setq hpw hp0 hpp 0 (.int .i64 3)
 have b1 : ((w6.setCell ⟨p2, 0, none⟩ (.int .i64 3)).setCell ⟨p2, 1, none⟩ (.int .i64 s)).heap[p2]? = some (.cells #[(.int .i64 3), (.int .i64 s), (.bool false), (.string ⟨#[]⟩), (.int .i64 0), (.int .i64 0), (.int .i64 0), (.string ⟨#[]⟩), (.int .u64 0), (.slice none 0 0)] TF (0, 0)) := blk_set b0 1 _
 have n1 := n0.setq hpw hp0 hpp 1 (.int .i64 s)
 have b2 : (((w6.setCell ⟨p2, 0, none⟩ (.int .i64 3)).setCell ⟨p2, 1, none⟩ (.int .i64 s)).setCell ⟨p2, 2, none⟩ (.bool false)).heap[p2]? = some (.cells #[(.int .i64 3), (.int .i64 s), (.bool false), (.string ⟨#[]⟩), (.int .i64 0), (.int .i64 0), (.int .i64 0), (.string ⟨#[]⟩), (.int .u64 0), (.slice none 0 0)] TF (0, 0)) := blk_set b1 2 _
 have n2 := n1.setq hpw hp0 hpp 2 (.bool false)
 have b3 : ((((w6.setCell ⟨p2, 0, none⟩ (.int .i64 3)).setCell ⟨p2, 1, none⟩ (.int .i64 s)).setCell ⟨p2, 2, none⟩ (.bool false)).setCell ⟨p2, 3, none⟩ (.string ⟨#[]⟩)).heap[p2]? = some (.cells #[(.int .i64 3), (.int .i64 s), (.bool false), (.string ⟨#[]⟩), (.int .i64 0), (.int .i64 0), (.int .i64 0), (.string ⟨#[]⟩), (.int .u64 0), (.slice none 0 0)] TF (0, 0)) := blk_set b2 3 _
 have n3 := n2.setq hpw hp0 hpp 3 (.string ⟨#[]⟩)
 have b4 : (((((w6.setCell ⟨p2, 0, none⟩ (.int .i64 3)).setCell ⟨p2, 1, none⟩ (.int .i64 s)).setCell ⟨p2, 2, none⟩ (.bool false)).setCell ⟨p2, 3, none⟩ (.string ⟨#[]⟩)).setCell ⟨p2, 4, none⟩ (.int .i64 0)).heap[p2]? = some (.cells #[(.int .i64 3), (.int .i64 s), (.bool false), (.string ⟨#[]⟩), (.int .i64 0), (.int .i64 0), (.int .i64 0), (.string ⟨#[]⟩), (.int .u64 0), (.slice none 0 0)] TF (0, 0)) := blk_set b3 4 _
 have n4 := n3.setq hpw hp0 hpp 4 (.int .i64 0)
 have b5 : ((((((w6.setCell ⟨p2, 0, none⟩ (.int .i64 3)).setCell ⟨p2, 1, none⟩ (.int .i64 s)).setCell ⟨p2, 2, none⟩ (.bool false)).setCell ⟨p2, 3, none⟩ (.string ⟨#[]⟩)).setCell ⟨p2, 4, none⟩ (.int .i64 0)).setCell ⟨p2, 5, none⟩ (.int .i64 0)).heap[p2]? = some (.cells #[(.int .i64 3), (.int .i64 s), (.bool false), (.string ⟨#[]⟩), (.int .i64 0), (.int .i64 0), (.int .i64 0), (.string ⟨#[]⟩), (.int .u64 0), (.slice none 0 0)] TF (0, 0)) := blk_set b4 5 _
 have n5 := n4.setq hpw hp0 hpp 5 (.int .i64 0)
 have b6 : (((((((w6.setCell ⟨p2, 0, none⟩ (.int .i64 3)).setCell ⟨p2, 1, none⟩ (.int .i64 s)).setCell ⟨p2, 2, none⟩ (.bool false)).setCell ⟨p2, 3, none⟩ (.string ⟨#[]⟩)).setCell ⟨p2, 4, none⟩ (.int .i64 0)).setCell ⟨p2, 5, none⟩ (.int .i64 0)).setCell ⟨p2, 6, none⟩ (.int .i64 0)).heap[p2]? = some (.cells #[(.int .i64 3), (.int .i64 s), (.bool false), (.string ⟨#[]⟩), (.int .i64 0), (.int .i64 0), (.int .i64 0), (.string ⟨#[]⟩), (.int .u64 0), (.slice none 0 0)] TF (0, 0)) := blk_set b5 6 _
 have n6 := n5.setq hpw hp0 hpp 6 (.int .i64 0)
 have b7 : ((((((((w6.setCell ⟨p2, 0, none⟩ (.int .i64 3)).setCell ⟨p2, 1, none⟩ (.int .i64 s)).setCell ⟨p2, 2, none⟩ (.bool false)).setCell ⟨p2, 3, none⟩ (.string ⟨#[]⟩)).setCell ⟨p2, 4, none⟩ (.int .i64 0)).setCell ⟨p2, 5, none⟩ (.int .i64 0)).setCell ⟨p2, 6, none⟩ (.int .i64 0)).setCell ⟨p2, 7, none⟩ (.string ⟨#[]⟩)).heap[p2]? = some (.cells #[(.int .i64 3), (.int .i64 s), (.bool false), (.string ⟨#[]⟩), (.int .i64 0), (.int .i64 0), (.int .i64 0), (.string ⟨#[]⟩), (.int .u64 0), (.slice none 0 0)] TF (0, 0)) := blk_set b6 7 _
 have n7 := n6.setq hpw hp0 hpp 7 (.string ⟨#[]⟩)
 have b8 : (((((((((w6.setCell ⟨p2, 0, none⟩ (.int .i64 3)).setCell ⟨p2, 1, none⟩ (.int .i64 s)).setCell ⟨p2, 2, none⟩ (.bool false)).setCell ⟨p2, 3, none⟩ (.string ⟨#[]⟩)).setCell ⟨p2, 4, none⟩ (.int .i64 0)).setCell ⟨p2, 5, none⟩ (.int .i64 0)).setCell ⟨p2, 6, none⟩ (.int .i64 0)).setCell ⟨p2, 7, none⟩ (.string ⟨#[]⟩)).setCell ⟨p2, 8, none⟩ (.int .u64 0)).heap[p2]? = some (.cells #[(.int .i64 3), (.int .i64 s), (.bool false), (.string ⟨#[]⟩), (.int .i64 0), (.int .i64 0), (.int .i64 0), (.string ⟨#[]⟩), (.int .u64 0), (.slice none 0 0)] TF (0, 0)) := blk_set b7 8 _
 have n8 := n7.setq hpw hp0 hpp 8 (.int .u64 0)
 have b9 : ((((((((((w6.setCell ⟨p2, 0, none⟩ (.int .i64 3)).setCell ⟨p2, 1, none⟩ (.int .i64 s)).setCell ⟨p2, 2, none⟩ (.bool false)).setCell ⟨p2, 3, none⟩ (.string ⟨#[]⟩)).setCell ⟨p2, 4, none⟩ (.int .i64 0)).setCell ⟨p2, 5, none⟩ (.int .i64 0)).setCell ⟨p2, 6, none⟩ (.int .i64 0)).setCell ⟨p2, 7, none⟩ (.string ⟨#[]⟩)).setCell ⟨p2, 8, none⟩ (.int .u64 0)).setCell ⟨p2, 9, none⟩ (.slice B m mc)).heap[p2]? = some (.cells #[(.int .i64 3), (.int .i64 s), (.bool false), (.string ⟨#[]⟩), (.int .i64 0), (.int .i64 0), (.int .i64 0), (.string ⟨#[]⟩), (.int .u64 0), (.slice B m mc)] TF (0, 0)) := blk_set b8 9 _
 have n9 := n8.setq hpw hp0 hpp 9 (.slice B m mc)
 generalize hwf : ((((((((((w6.setCell ⟨p2, 0, none⟩ (.int .i64 3)).setCell ⟨p2, 1, none⟩ (.int .i64 s)).setCell ⟨p2, 2, none⟩ (.bool false)).setCell ⟨p2, 3, none⟩ (.string ⟨#[]⟩)).setCell ⟨p2, 4, none⟩ (.int .i64 0)).setCell ⟨p2, 5, none⟩ (.int .i64 0)).setCell ⟨p2, 6, none⟩ (.int .i64 0)).setCell ⟨p2, 7, none⟩ (.string ⟨#[]⟩)).setCell ⟨p2, 8, none⟩ (.int .u64 0)).setCell ⟨p2, 9, none⟩ (.slice B m mc)) = wf at b9 n9 ⊢
 clear b0 n0 b1 n1 b2 n2 b3 n3 b4 n4 b5 n5 b6 n6 b7 n7 b8 n8
 refine bodyPost_ret (results_ct rfl _ _ p2 TF #[(.int .i64 3), (.int .i64 s), (.bool false), (.string ⟨#[]⟩), (.int .i64 0), (.int .i64 0), (.int .i64 0), (.string ⟨#[]⟩), (.int .u64 0), (.slice B m mc)] (0, 0) _ rfl b9 Try.underlying60 rfl (by kernel_rfl)) rfl ?_
 exact ⟨rfl, n9⟩
set_option maxHeartbeats 8000000 in
theorem next_delta (s : Int) (A : Option Addr) (cc : Nat) (tok at_ dg c0 c1 c2 c3 : Int) (B : Option Addr) (m mc : Nat) (now : Int) (p : Nat) (w0 w : World) (hB : Below w0.heap.size w0 w) (hp : w0.heap.size ≤ p) (hs0 : 0 ≤ s) (hs : s < 1099511627776) (x : Ch) (l : List Ch) (ok : Nat → Prop) (hok : ∀ k, ok k → k ≠ p) (hnew : ∀ k, w.heap.size ≤ k → ok k) (hv : Kd.V kCh 34 w 0 ok (.slice A (x :: l).length cc) (x :: l))
  (tp : w.heap[p]? = some (.cells (tc s (.slice A (x :: l).length cc) false tok at_ false dg c0 c1 c2 c3 (.slice B m mc) now) TT (0, 0))) :
  Calls Try.prog 52 #[.pointer (some ⟨p, 0, none⟩)] w fun e w' => ∃ A' c', e = .returned (.tuple #[.agg #[(.int .i64 1), (.int .i64 s), (.bool x.f1), (.string x.f0), (.int .i64 x.f2.f0), (.int .i64 x.f2.f1), (.int .i64 x.f2.f2), (.string x.f2.f3), (.int .u64 0), (.slice none 0 0)], .bool true]) ∧ Next w0 w w' p (tc (s + 1) (.slice A' l.length c') false tok at_ false dg c0 c1 c2 c3 (.slice B m mc) now) ∧ Kd.V kCh 34 w' 0 ok (.slice A' l.length c') l := by
 have r0 := (blk_cell tp 0).trans rfl
 have hpl := blk_lt tp
 go_enter Try.func52, Try.ntmps52
 go_upto_region 1 with (fail)
 generalize hg : World.alloc _ _ = w1
 have hb1 := al_below hg
 have T2 := al_new hg
 have tp1 := blk_below tp hb1
 have hB1 := below_step hB hb1
 have hwz := hB.size
 have r0' := pw_cell_below hb1 r0
 clear hg r0 hB
 obtain ⟨p2, hp2⟩ : ∃ x, x = w.heap.size := ⟨_, rfl⟩
 rw [← hp2] at T2
 rw [← hp2]
 have hlt2 := blk_lt T2
 go_upto_region 2 with (fail)
 generalize hg : World.alloc _ _ = w2
 have hb2 := al_below hg
 have T4 := al_new hg
 have tp2 := blk_below tp1 hb2
 have T2' := blk_below T2 hb2
 have hB2 := below_step hB1 hb2
 have hbw := below_step hb1 hb2
 clear hg r0' hB1 tp1 T2
 obtain ⟨q, hq⟩ : ∃ x, x = w1.heap.size := ⟨_, rfl⟩
 rw [← hq] at T4
 rw [← hq]
 have hne : p ≠ q := by omega
 have hq0 : w0.heap.size ≤ q := by omega
 have hqw : w.heap.size ≤ q := by omega
 have hpq : p2 ≠ q := by omega
 have hpp : p ≠ p2 := by omega
 have hpw : w.heap.size ≤ p2 := by omega
 have hp0 : w0.heap.size ≤ p2 := by omega
 have hqp : ∀ k, k < w.heap.size → k ≠ q ∧ k ≠ p2 := fun k hk => ⟨by omega, by omega⟩
 clear hq hp2 hlt2 hwz
 have hv2 := Kd.V_below hv hbw
 go_wp2
 refine wp_loop_rounds 4 ?_
 rw [rounds_succ]
 go_wp2_with fail
 refine (snapshot_no s _ false tok at_ dg c0 c1 c2 c3 _ now p q w2 tp2).mono ?_
 rintro e w3 ⟨rfl, rfl⟩
 go_wp2
 rw [rounds_succ]
 go_wp2_with fail
 have hvq : Kd.V kCh 34 w3 w3.heap.size (fun k => ok k ∧ k ≠ q ∧ k ≠ p2) (.slice A (x :: l).length cc) (x :: l) := Kd.V_mono (Kd.V_below (Kd.V_bound hv) hbw) (fun k hk => ⟨hk.1, (hqp k hk.2).1, (hqp k hk.2).2⟩)
 refine (delta_yes s A 0 cc false tok at_ false dg c0 c1 c2 c3 B m mc now s 0 false ⟨#[]⟩ 0 0 0 ⟨#[]⟩ (.slice none 0 0) 0 p q w0 w3 hB2 hp hq0 hne x l tp2 T4 (fun k => ok k ∧ k ≠ q ∧ k ≠ p2) (fun k h => ⟨hok k h.1, h.2.1⟩) (fun k h => by have h2 := blk_lt T4; have h3 := blk_lt T2'; have h4 := hbw.size; exact ⟨hnew k (by omega), by omega, by omega⟩) hvq).mono ?_
 rintro e w4 ⟨rfl, A', c', H, hV⟩
 have T2n := (H.keep p2 (blk_lt T2') (fun e => hpp e.symm) hpq).trans T2'
 have Tq := H.tq
 have HN := Next.of H hbw hqw
 clear H T2' T4 hB2 hbw
 have hw : wrap64 (s + 1) = s + 1 := by unfold wrap64; omega
 have r0 := (blk_cell HN.tp 0).trans rfl
 have z0 := blk_frozen HN.tp 0
 go_upto_region 7 with (fail)
 have HN2 := HN.setp hp 0 (.int .i64 (s + 1))
 have Tq2 := blk_far Tq (p := ⟨p, 0, none⟩) (fun e => hne e.symm) (.int .i64 (s + 1))
 have T22 := blk_far T2n (p := ⟨p, 0, none⟩) (fun e => hpp e.symm) (.int .i64 (s + 1))
 have hV2 := Kd.V_far hV (p := ⟨p, 0, none⟩) (fun k hk => hok k hk.1) (.int .i64 (s + 1))
 generalize w4.setCell ⟨p, 0, none⟩ (.int .i64 (s + 1)) = w6 at HN2 Tq2 T22 hV2 ⊢
 clear HN Tq T2n r0 z0 hV
 have y0 := (blk_cell Tq2 0).trans rfl
 have y1 := (blk_cell Tq2 1).trans rfl
 have y2 := (blk_cell Tq2 2).trans rfl
 have y3 := (blk_cell Tq2 3).trans rfl
 have y4 := (blk_cell Tq2 4).trans rfl
 have y5 := (blk_cell Tq2 5).trans rfl
 have y6 := (blk_cell Tq2 6).trans rfl
 have y7 := (blk_cell Tq2 7).trans rfl
 have y8 := (blk_cell Tq2 8).trans rfl
 have y9 := (blk_cell Tq2 9).trans rfl
 have k0 := (blk_cell T22 0).trans rfl
 have z0 := blk_frozen T22 0
 have k1 := (blk_cell T22 1).trans rfl
 have z1 := blk_frozen T22 1
 have k2 := (blk_cell T22 2).trans rfl
 have z2 := blk_frozen T22 2
 have k3 := (blk_cell T22 3).trans rfl
 have z3 := blk_frozen T22 3
 have k4 := (blk_cell T22 4).trans rfl
 have z4 := blk_frozen T22 4
 have k5 := (blk_cell T22 5).trans rfl
 have z5 := blk_frozen T22 5
 have k6 := (blk_cell T22 6).trans rfl
 have z6 := blk_frozen T22 6
 have k7 := (blk_cell T22 7).trans rfl
 have z7 := blk_frozen T22 7
 have k8 := (blk_cell T22 8).trans rfl
 have z8 := blk_frozen T22 8
 have k9 := (blk_cell T22 9).trans rfl
 have z9 := blk_frozen T22 9
 go_wp2
 have b0 : (w6.setCell ⟨p2, 0, none⟩ (.int .i64 1)).heap[p2]? = some (.cells #[(.int .i64 1), (.int .i64 0), (.bool false), (.string ⟨#[]⟩), (.int .i64 0), (.int .i64 0), (.int .i64 0), (.string ⟨#[]⟩), (.int .u64 0), (.slice none 0 0)] TF (0, 0)) := blk_set T22 0 _
 have n0 := HN2.setq hpw hp0 hpp 0 (.int .i64 1)
 have v0 := Kd.V_far hV2 (p := ⟨p2, 0, none⟩) (fun k hk => hk.2.2) (.int .i64 1)
 have b1 : ((w6.setCell ⟨p2, 0, none⟩ (.int .i64 1)).setCell ⟨p2, 1, none⟩ (.int .i64 s)).heap[p2]? = some (.cells #[(.int .i64 1), (.int .i64 s), (.bool false), (.string ⟨#[]⟩), (.int .i64 0), (.int .i64 0), (.int .i64 0), (.string ⟨#[]⟩), (.int .u64 0), (.slice none 0 0)] TF (0, 0)) := blk_set b0 1 _
 have n1 := n0.setq hpw hp0 hpp 1 (.int .i64 s)
 have v1 := Kd.V_far v0 (p := ⟨p2, 1, none⟩) (fun k hk => hk.2.2) (.int .i64 s)
 have b2 : (((w6.setCell ⟨p2, 0, none⟩ (.int .i64 1)).setCell ⟨p2, 1, none⟩ (.int .i64 s)).setCell ⟨p2, 2, none⟩ (.bool x.f1)).heap[p2]? = some (.cells #[(.int .i64 1), (.int .i64 s), (.bool x.f1), (.string ⟨#[]⟩), (.int .i64 0), (.int .i64 0), (.int .i64 0), (.string ⟨#[]⟩), (.int .u64 0), (.slice none 0 0)] TF (0, 0)) := blk_set b1 2 _
 have n2 := n1.setq hpw hp0 hpp 2 (.bool x.f1)
 have v2 := Kd.V_far v1 (p := ⟨p2, 2, none⟩) (fun k hk => hk.2.2) (.bool x.f1)
 have b3 : ((((w6.setCell ⟨p2, 0, none⟩ (.int .i64 1)).setCell ⟨p2, 1, none⟩ (.int .i64 s)).setCell ⟨p2, 2, none⟩ (.bool x.f1)).setCell ⟨p2, 3, none⟩ (.string x.f0)).heap[p2]? = some (.cells #[(.int .i64 1), (.int .i64 s), (.bool x.f1), (.string x.f0), (.int .i64 0), (.int .i64 0), (.int .i64 0), (.string ⟨#[]⟩), (.int .u64 0), (.slice none 0 0)] TF (0, 0)) := blk_set b2 3 _
 have n3 := n2.setq hpw hp0 hpp 3 (.string x.f0)
 have v3 := Kd.V_far v2 (p := ⟨p2, 3, none⟩) (fun k hk => hk.2.2) (.string x.f0)
 have b4 : (((((w6.setCell ⟨p2, 0, none⟩ (.int .i64 1)).setCell ⟨p2, 1, none⟩ (.int .i64 s)).setCell ⟨p2, 2, none⟩ (.bool x.f1)).setCell ⟨p2, 3, none⟩ (.string x.f0)).setCell ⟨p2, 4, none⟩ (.int .i64 x.f2.f0)).heap[p2]? = some (.cells #[(.int .i64 1), (.int .i64 s), (.bool x.f1), (.string x.f0), (.int .i64 x.f2.f0), (.int .i64 0), (.int .i64 0), (.string ⟨#[]⟩), (.int .u64 0), (.slice none 0 0)] TF (0, 0)) := blk_set b3 4 _
 have n4 := n3.setq hpw hp0 hpp 4 (.int .i64 x.f2.f0)
 have v4 := Kd.V_far v3 (p := ⟨p2, 4, none⟩) (fun k hk => hk.2.2) (.int .i64 x.f2.f0)
 have b5 : ((((((w6.setCell ⟨p2, 0, none⟩ (.int .i64 1)).setCell ⟨p2, 1, none⟩ (.int .i64 s)).setCell ⟨p2, 2, none⟩ (.bool x.f1)).setCell ⟨p2, 3, none⟩ (.string x.f0)).setCell ⟨p2, 4, none⟩ (.int .i64 x.f2.f0)).setCell ⟨p2, 5, none⟩ (.int .i64 x.f2.f1)).heap[p2]? = some (.cells #[(.int .i64 1), (.int .i64 s), (.bool x.f1), (.string x.f0), (.int .i64 x.f2.f0), (.int .i64 x.f2.f1), (.int .i64 0), (.string ⟨#[]⟩), (.int .u64 0), (.slice none 0 0)] TF (0, 0)) := blk_set b4 5 _
 have n5 := n4.setq hpw hp0 hpp 5 (.int .i64 x.f2.f1)
 have v5 := Kd.V_far v4 (p := ⟨p2, 5, none⟩) (fun k hk => hk.2.2) (.int .i64 x.f2.f1)
 have b6 : (((((((w6.setCell ⟨p2, 0, none⟩ (.int .i64 1)).setCell ⟨p2, 1, none⟩ (.int .i64 s)).setCell ⟨p2, 2, none⟩ (.bool x.f1)).setCell ⟨p2, 3, none⟩ (.string x.f0)).setCell ⟨p2, 4, none⟩ (.int .i64 x.f2.f0)).setCell ⟨p2, 5, none⟩ (.int .i64 x.f2.f1)).setCell ⟨p2, 6, none⟩ (.int .i64 x.f2.f2)).heap[p2]? = some (.cells #[(.int .i64 1), (.int .i64 s), (.bool x.f1), (.string x.f0), (.int .i64 x.f2.f0), (.int .i64 x.f2.f1), (.int .i64 x.f2.f2), (.string ⟨#[]⟩), (.int .u64 0), (.slice none 0 0)] TF (0, 0)) := blk_set b5 6 _
 have n6 := n5.setq hpw hp0 hpp 6 (.int .i64 x.f2.f2)
 have v6 := Kd.V_far v5 (p := ⟨p2, 6, none⟩) (fun k hk => hk.2.2) (.int .i64 x.f2.f2)
 have b7 : ((((((((w6.setCell ⟨p2, 0, none⟩ (.int .i64 1)).setCell ⟨p2, 1, none⟩ (.int .i64 s)).setCell ⟨p2, 2, none⟩ (.bool x.f1)).setCell ⟨p2, 3, none⟩ (.string x.f0)).setCell ⟨p2, 4, none⟩ (.int .i64 x.f2.f0)).setCell ⟨p2, 5, none⟩ (.int .i64 x.f2.f1)).setCell ⟨p2, 6, none⟩ (.int .i64 x.f2.f2)).setCell ⟨p2, 7, none⟩ (.string x.f2.f3)).heap[p2]? = some (.cells #[(.int .i64 1), (.int .i64 s), (.bool x.f1), (.string x.f0), (.int .i64 x.f2.f0), (.int .i64 x.f2.f1), (.int .i64 x.f2.f2), (.string x.f2.f3), (.int .u64 0), (.slice none 0 0)] TF (0, 0)) := blk_set b6 7 _
 have n7 := n6.setq hpw hp0 hpp 7 (.string x.f2.f3)
 have v7 := Kd.V_far v6 (p := ⟨p2, 7, none⟩) (fun k hk => hk.2.2) (.string x.f2.f3)
 have b8 : (((((((((w6.setCell ⟨p2, 0, none⟩ (.int .i64 1)).setCell ⟨p2, 1, none⟩ (.int .i64 s)).setCell ⟨p2, 2, none⟩ (.bool x.f1)).setCell ⟨p2, 3, none⟩ (.string x.f0)).setCell ⟨p2, 4, none⟩ (.int .i64 x.f2.f0)).setCell ⟨p2, 5, none⟩ (.int .i64 x.f2.f1)).setCell ⟨p2, 6, none⟩ (.int .i64 x.f2.f2)).setCell ⟨p2, 7, none⟩ (.string x.f2.f3)).setCell ⟨p2, 8, none⟩ (.int .u64 0)).heap[p2]? = some (.cells #[(.int .i64 1), (.int .i64 s), (.bool x.f1), (.string x.f0), (.int .i64 x.f2.f0), (.int .i64 x.f2.f1), (.int .i64 x.f2.f2), (.string x.f2.f3), (.int .u64 0), (.slice none 0 0)] TF (0, 0)) := blk_set b7 8 _
 have n8 := n7.setq hpw hp0 hpp 8 (.int .u64 0)
 have v8 := Kd.V_far v7 (p := ⟨p2, 8, none⟩) (fun k hk => hk.2.2) (.int .u64 0)
 have b9 : ((((((((((w6.setCell ⟨p2, 0, none⟩ (.int .i64 1)).setCell ⟨p2, 1, none⟩ (.int .i64 s)).setCell ⟨p2, 2, none⟩ (.bool x.f1)).setCell ⟨p2, 3, none⟩ (.string x.f0)).setCell ⟨p2, 4, none⟩ (.int .i64 x.f2.f0)).setCell ⟨p2, 5, none⟩ (.int .i64 x.f2.f1)).setCell ⟨p2, 6, none⟩ (.int .i64 x.f2.f2)).setCell ⟨p2, 7, none⟩ (.string x.f2.f3)).setCell ⟨p2, 8, none⟩ (.int .u64 0)).setCell ⟨p2, 9, none⟩ (.slice none 0 0)).heap[p2]? = some (.cells #[(.int .i64 1), (.int .i64 s), (.bool x.f1), (.string x.f0), (.int .i64 x.f2.f0), (.int .i64 x.f2.f1), (.int .i64 x.f2.f2), (.string x.f2.f3), (.int .u64 0), (.slice none 0 0)] TF (0, 0)) := blk_set b8 9 _
 have n9 := n8.setq hpw hp0 hpp 9 (.slice none 0 0)
 have v9 := Kd.V_far v8 (p := ⟨p2, 9, none⟩) (fun k hk => hk.2.2) (.slice none 0 0)
 generalize hwf : ((((((((((w6.setCell ⟨p2, 0, none⟩ (.int .i64 1)).setCell ⟨p2, 1, none⟩ (.int .i64 s)).setCell ⟨p2, 2, none⟩ (.bool x.f1)).setCell ⟨p2, 3, none⟩ (.string x.f0)).setCell ⟨p2, 4, none⟩ (.int .i64 x.f2.f0)).setCell ⟨p2, 5, none⟩ (.int .i64 x.f2.f1)).setCell ⟨p2, 6, none⟩ (.int .i64 x.f2.f2)).setCell ⟨p2, 7, none⟩ (.string x.f2.f3)).setCell ⟨p2, 8, none⟩ (.int .u64 0)).setCell ⟨p2, 9, none⟩ (.slice none 0 0)) = wf at b9 n9 v9 ⊢
 clear b0 n0 b1 n1 b2 n2 b3 n3 b4 n4 b5 n5 b6 n6 b7 n7 b8 n8 v0 v1 v2 v3 v4 v5 v6 v7 v8
 refine bodyPost_ret (results_ct rfl _ _ p2 TF #[(.int .i64 1), (.int .i64 s), (.bool x.f1), (.string x.f0), (.int .i64 x.f2.f0), (.int .i64 x.f2.f1), (.int .i64 x.f2.f2), (.string x.f2.f3), (.int .u64 0), (.slice none 0 0)] (0, 0) _ rfl b9 Try.underlying60 rfl (by kernel_rfl)) rfl ?_
 exact ⟨A', c', rfl, n9, Kd.V_mono v9 (fun k hk => hk.1)⟩
set_option maxHeartbeats 8000000 in
theorem next_digest (s : Int) (A : Option Addr) (cc : Nat) (tok at_ dg c0 c1 c2 c3 : Int) (B : Option Addr) (mc : Nat) (now : Int) (p : Nat) (w0 w : World) (hB : Below w0.heap.size w0 w) (hp : w0.heap.size ≤ p) (hs0 : 0 ≤ s) (hs : s < 1099511627776) (hv : Kd.V kCh 34 w 0 (fun k => k ≠ p) (.slice A 0 cc) []) (h0 : 0 ≤ dg) (h1 : dg ≤ 1099511627776) (h2 : 0 ≤ now) (h3 : now ≤ 1099511627776) (hd : c3 ≤ now - dg) (k0 : Nat) (t : List Se) (hl : t.length ≤ 40) (hm : digest_May.f k0 t = some true) (hz : ∀ x ∈ t, x.f0.size ≤ 9223372036854775807) (hvt : Kd.V kSe 72 w 0 (fun k => k ≠ p) (.slice B t.length mc) t)
  (tp : w.heap[p]? = some (.cells (tc s (.slice A 0 cc) false tok at_ false dg c0 c1 c2 c3 (.slice B t.length mc) now) TT (0, 0))) :
  Calls Try.prog 52 #[.pointer (some ⟨p, 0, none⟩)] w fun e w' => e = .returned (.tuple #[.agg #[(.int .i64 2), (.int .i64 s), (.bool false), (.string ⟨#[]⟩), (.int .i64 0), (.int .i64 0), (.int .i64 0), (.string ⟨#[]⟩), (.int .u64 (sumB t)), (.slice none 0 0)], .bool true]) ∧ Next w0 w w' p (tc (s + 1) (.slice A 0 cc) false tok at_ false now c0 c1 c2 c3 (.slice B t.length mc) now) := by
 have r0 := (blk_cell tp 0).trans rfl
 have hpl := blk_lt tp
 go_enter Try.func52, Try.ntmps52
 go_upto_region 1 with (fail)
 generalize hg : World.alloc _ _ = w1
 have hb1 := al_below hg
 have T2 := al_new hg
 have tp1 := blk_below tp hb1
 have hB1 := below_step hB hb1
 have hwz := hB.size
 have r0' := pw_cell_below hb1 r0
 clear hg r0 hB
 obtain ⟨p2, hp2⟩ : ∃ x, x = w.heap.size := ⟨_, rfl⟩
 rw [← hp2] at T2
 rw [← hp2]
 have hlt2 := blk_lt T2
 go_upto_region 2 with (fail)
 generalize hg : World.alloc _ _ = w2
 have hb2 := al_below hg
 have T4 := al_new hg
 have tp2 := blk_below tp1 hb2
 have T2' := blk_below T2 hb2
 have hB2 := below_step hB1 hb2
 have hbw := below_step hb1 hb2
 clear hg r0' hB1 tp1 T2
 obtain ⟨q, hq⟩ : ∃ x, x = w1.heap.size := ⟨_, rfl⟩
 rw [← hq] at T4
 rw [← hq]
 have hne : p ≠ q := by omega
 have hq0 : w0.heap.size ≤ q := by omega
 have hqw : w.heap.size ≤ q := by omega
 have hpq : p2 ≠ q := by omega
 have hpp : p ≠ p2 := by omega
 have hpw : w.heap.size ≤ p2 := by omega
 have hp0 : w0.heap.size ≤ p2 := by omega
 have hqp : ∀ k, k < w.heap.size → k ≠ q ∧ k ≠ p2 := fun k hk => ⟨by omega, by omega⟩
 clear hq hp2 hlt2 hwz
 have hv2 := Kd.V_below hv hbw
 have hvt2 := Kd.V_below hvt hbw
 go_wp2
 refine wp_loop_rounds 4 ?_
 rw [rounds_succ]
 go_wp2_with fail
 refine (snapshot_no s _ false tok at_ dg c0 c1 c2 c3 _ now p q w2 tp2).mono ?_
 rintro e w3 ⟨rfl, rfl⟩
 go_wp2
 rw [rounds_succ]
 go_wp2_with fail
 refine (delta_no s A cc false tok at_ false dg c0 c1 c2 c3 _ now p q (fun k => k ≠ p) w3 tp2 hv2).mono ?_
 rintro e w4 ⟨rfl, hb⟩
 have tp4 := blk_below tp2 hb
 have T44 := blk_below T4 hb
 have T24 := blk_below T2' hb
 have hB4 := below_step hB2 hb
 have hbw4 := below_step hbw hb
 have hvt4 := Kd.V_below hvt2 hb
 clear hb tp2 T4 T2' hB2 hbw
 go_wp2
 rw [rounds_succ]
 go_wp2_with fail
 refine (digest_yes s A 0 cc false tok at_ false dg c0 c1 c2 c3 B mc now s 0 h0 h1 h2 h3 hd false ⟨#[]⟩ 0 0 0 ⟨#[]⟩ (.slice none 0 0) 0 p q w0 w4 hB4 hp hq0 hne k0 t hl hm hz tp4 T44 hvt4).mono ?_
 rintro e w5 ⟨rfl, H⟩
 have T2n := (H.keep p2 (blk_lt T24) (fun e => hpp e.symm) hpq).trans T24
 have Tq := H.tq
 have HN := Next.of H hbw4 hqw
 clear H T24 T44 hB4 hbw4
 have hw : wrap64 (s + 1) = s + 1 := by unfold wrap64; omega
 have r0 := (blk_cell HN.tp 0).trans rfl
 have z0 := blk_frozen HN.tp 0
 go_upto_region 7 with (fail)
 have HN2 := HN.setp hp 0 (.int .i64 (s + 1))
 have Tq2 := blk_far Tq (p := ⟨p, 0, none⟩) (fun e => hne e.symm) (.int .i64 (s + 1))
 have T22 := blk_far T2n (p := ⟨p, 0, none⟩) (fun e => hpp e.symm) (.int .i64 (s + 1))
 generalize w5.setCell ⟨p, 0, none⟩ (.int .i64 (s + 1)) = w6 at HN2 Tq2 T22 ⊢
 clear HN Tq T2n r0 z0
 have y0 := (blk_cell Tq2 0).trans rfl
 have y1 := (blk_cell Tq2 1).trans rfl
 have y2 := (blk_cell Tq2 2).trans rfl
 have y3 := (blk_cell Tq2 3).trans rfl
 have y4 := (blk_cell Tq2 4).trans rfl
 have y5 := (blk_cell Tq2 5).trans rfl
 have y6 := (blk_cell Tq2 6).trans rfl
 have y7 := (blk_cell Tq2 7).trans rfl
 have y8 := (blk_cell Tq2 8).trans rfl
 have y9 := (blk_cell Tq2 9).trans rfl
 have k0 := (blk_cell T22 0).trans rfl
 have z0 := blk_frozen T22 0
 have k1 := (blk_cell T22 1).trans rfl
 have z1 := blk_frozen T22 1
 have k2 := (blk_cell T22 2).trans rfl
 have z2 := blk_frozen T22 2
 have k3 := (blk_cell T22 3).trans rfl
 have z3 := blk_frozen T22 3
 have k4 := (blk_cell T22 4).trans rfl
 have z4 := blk_frozen T22 4
 have k5 := (blk_cell T22 5).trans rfl
 have z5 := blk_frozen T22 5
 have k6 := (blk_cell T22 6).trans rfl
 have z6 := blk_frozen T22 6
 have k7 := (blk_cell T22 7).trans rfl
 have z7 := blk_frozen T22 7
 have k8 := (blk_cell T22 8).trans rfl
 have z8 := blk_frozen T22 8
 have k9 := (blk_cell T22 9).trans rfl
 have z9 := blk_frozen T22 9
 go_wp2
 have b0 : (w6.setCell ⟨p2, 0, none⟩ (.int .i64 2)).heap[p2]? = some (.cells #[(.int .i64 2), (.int .i64 0), (.bool false), (.string ⟨#[]⟩), (.int .i64 0), (.int .i64 0), (.int .i64 0), (.string ⟨#[]⟩), (.int .u64 0), (.slice none 0 0)] TF (0, 0)) := blk_set T22 0 _
 have n0 := HN2.setq hpw hp0 hpp 0 (.int .i64 2)
 have b1 : ((w6.setCell ⟨p2, 0, none⟩ (.int .i64 2)).setCell ⟨p2, 1, none⟩ (.int .i64 s)).heap[p2]? = some (.cells #[(.int .i64 2), (.int .i64 s), (.bool false), (.string ⟨#[]⟩), (.int .i64 0), (.int .i64 0), (.int .i64 0), (.string ⟨#[]⟩), (.int .u64 0), (.slice none 0 0)] TF (0, 0)) := blk_set b0 1 _
 have n1 := n0.setq hpw hp0 hpp 1 (.int .i64 s)
 have b2 : (((w6.setCell ⟨p2, 0, none⟩ (.int .i64 2)).setCell ⟨p2, 1, none⟩ (.int .i64 s)).setCell ⟨p2, 2, none⟩ (.bool false)).heap[p2]? = some (.cells #[(.int .i64 2), (.int .i64 s), (.bool false), (.string ⟨#[]⟩), (.int .i64 0), (.int .i64 0), (.int .i64 0), (.string ⟨#[]⟩), (.int .u64 0), (.slice none 0 0)] TF (0, 0)) := blk_set b1 2 _
 have n2 := n1.setq hpw hp0 hpp 2 (.bool false)
 have b3 : ((((w6.setCell ⟨p2, 0, none⟩ (.int .i64 2)).setCell ⟨p2, 1, none⟩ (.int .i64 s)).setCell ⟨p2, 2, none⟩ (.bool false)).setCell ⟨p2, 3, none⟩ (.string ⟨#[]⟩)).heap[p2]? = some (.cells #[(.int .i64 2), (.int .i64 s), (.bool false), (.string ⟨#[]⟩), (.int .i64 0), (.int .i64 0), (.int .i64 0), (.string ⟨#[]⟩), (.int .u64 0), (.slice none 0 0)] TF (0, 0)) := blk_set b2 3 _
 have n3 := n2.setq hpw hp0 hpp 3 (.string ⟨#[]⟩)
 have b4 : (((((w6.setCell ⟨p2, 0, none⟩ (.int .i64 2)).setCell ⟨p2, 1, none⟩ (.int .i64 s)).setCell ⟨p2, 2, none⟩ (.bool false)).setCell ⟨p2, 3, none⟩ (.string ⟨#[]⟩)).setCell ⟨p2, 4, none⟩ (.int .i64 0)).heap[p2]? = some (.cells #[(.int .i64 2), (.int .i64 s), (.bool false), (.string ⟨#[]⟩), (.int .i64 0), (.int .i64 0), (.int .i64 0), (.string ⟨#[]⟩), (.int .u64 0), (.slice none 0 0)] TF (0, 0)) := blk_set b3 4 _
 have n4 := n3.setq hpw hp0 hpp 4 (.int .i64 0)
 have b5 : ((((((w6.setCell ⟨p2, 0, none⟩ (.int .i64 2)).setCell ⟨p2, 1, none⟩ (.int .i64 s)).setCell ⟨p2, 2, none⟩ (.bool false)).setCell ⟨p2, 3, none⟩ (.string ⟨#[]⟩)).setCell ⟨p2, 4, none⟩ (.int .i64 0)).setCell ⟨p2, 5, none⟩ (.int .i64 0)).heap[p2]? = some (.cells #[(.int .i64 2), (.int .i64 s), (.bool false), (.string ⟨#[]⟩), (.int .i64 0), (.int .i64 0), (.int .i64 0), (.string ⟨#[]⟩), (.int .u64 0), (.slice none 0 0)] TF (0, 0)) := blk_set b4 5 _
 have n5 := n4.setq hpw hp0 hpp 5 (.int .i64 0)
 have b6 : (((((((w6.setCell ⟨p2, 0, none⟩ (.int .i64 2)).setCell ⟨p2, 1, none⟩ (.int .i64 s)).setCell ⟨p2, 2, none⟩ (.bool false)).setCell ⟨p2, 3, none⟩ (.string ⟨#[]⟩)).setCell ⟨p2, 4, none⟩ (.int .i64 0)).setCell ⟨p2, 5, none⟩ (.int .i64 0)).setCell ⟨p2, 6, none⟩ (.int .i64 0)).heap[p2]? = some (.cells #[(.int .i64 2), (.int .i64 s), (.bool false), (.string ⟨#[]⟩), (.int .i64 0), (.int .i64 0), (.int .i64 0), (.string ⟨#[]⟩), (.int .u64 0), (.slice none 0 0)] TF (0, 0)) := blk_set b5 6 _
 have n6 := n5.setq hpw hp0 hpp 6 (.int .i64 0)
 have b7 : ((((((((w6.setCell ⟨p2, 0, none⟩ (.int .i64 2)).setCell ⟨p2, 1, none⟩ (.int .i64 s)).setCell ⟨p2, 2, none⟩ (.bool false)).setCell ⟨p2, 3, none⟩ (.string ⟨#[]⟩)).setCell ⟨p2, 4, none⟩ (.int .i64 0)).setCell ⟨p2, 5, none⟩ (.int .i64 0)).setCell ⟨p2, 6, none⟩ (.int .i64 0)).setCell ⟨p2, 7, none⟩ (.string ⟨#[]⟩)).heap[p2]? = some (.cells #[(.int .i64 2), (.int .i64 s), (.bool false), (.string ⟨#[]⟩), (.int .i64 0), (.int .i64 0), (.int .i64 0), (.string ⟨#[]⟩), (.int .u64 0), (.slice none 0 0)] TF (0, 0)) := blk_set b6 7 _
 have n7 := n6.setq hpw hp0 hpp 7 (.string ⟨#[]⟩)
 have b8 : (((((((((w6.setCell ⟨p2, 0, none⟩ (.int .i64 2)).setCell ⟨p2, 1, none⟩ (.int .i64 s)).setCell ⟨p2, 2, none⟩ (.bool false)).setCell ⟨p2, 3, none⟩ (.string ⟨#[]⟩)).setCell ⟨p2, 4, none⟩ (.int .i64 0)).setCell ⟨p2, 5, none⟩ (.int .i64 0)).setCell ⟨p2, 6, none⟩ (.int .i64 0)).setCell ⟨p2, 7, none⟩ (.string ⟨#[]⟩)).setCell ⟨p2, 8, none⟩ (.int .u64 (sumB t))).heap[p2]? = some (.cells #[(.int .i64 2), (.int .i64 s), (.bool false), (.string ⟨#[]⟩), (.int .i64 0), (.int .i64 0), (.int .i64 0), (.string ⟨#[]⟩), (.int .u64 (sumB t)), (.slice none 0 0)] TF (0, 0)) := blk_set b7 8 _
 have n8 := n7.setq hpw hp0 hpp 8 (.int .u64 (sumB t))
 have b9 : ((((((((((w6.setCell ⟨p2, 0, none⟩ (.int .i64 2)).setCell ⟨p2, 1, none⟩ (.int .i64 s)).setCell ⟨p2, 2, none⟩ (.bool false)).setCell ⟨p2, 3, none⟩ (.string ⟨#[]⟩)).setCell ⟨p2, 4, none⟩ (.int .i64 0)).setCell ⟨p2, 5, none⟩ (.int .i64 0)).setCell ⟨p2, 6, none⟩ (.int .i64 0)).setCell ⟨p2, 7, none⟩ (.string ⟨#[]⟩)).setCell ⟨p2, 8, none⟩ (.int .u64 (sumB t))).setCell ⟨p2, 9, none⟩ (.slice none 0 0)).heap[p2]? = some (.cells #[(.int .i64 2), (.int .i64 s), (.bool false), (.string ⟨#[]⟩), (.int .i64 0), (.int .i64 0), (.int .i64 0), (.string ⟨#[]⟩), (.int .u64 (sumB t)), (.slice none 0 0)] TF (0, 0)) := blk_set b8 9 _
 have n9 := n8.setq hpw hp0 hpp 9 (.slice none 0 0)
 generalize hwf : ((((((((((w6.setCell ⟨p2, 0, none⟩ (.int .i64 2)).setCell ⟨p2, 1, none⟩ (.int .i64 s)).setCell ⟨p2, 2, none⟩ (.bool false)).setCell ⟨p2, 3, none⟩ (.string ⟨#[]⟩)).setCell ⟨p2, 4, none⟩ (.int .i64 0)).setCell ⟨p2, 5, none⟩ (.int .i64 0)).setCell ⟨p2, 6, none⟩ (.int .i64 0)).setCell ⟨p2, 7, none⟩ (.string ⟨#[]⟩)).setCell ⟨p2, 8, none⟩ (.int .u64 (sumB t))).setCell ⟨p2, 9, none⟩ (.slice none 0 0)) = wf at b9 n9 ⊢
 clear b0 n0 b1 n1 b2 n2 b3 n3 b4 n4 b5 n5 b6 n6 b7 n7 b8 n8
 refine bodyPost_ret (results_ct rfl _ _ p2 TF #[(.int .i64 2), (.int .i64 s), (.bool false), (.string ⟨#[]⟩), (.int .i64 0), (.int .i64 0), (.int .i64 0), (.string ⟨#[]⟩), (.int .u64 (sumB t)), (.slice none 0 0)] (0, 0) _ rfl b9 Try.underlying60 rfl (by kernel_rfl)) rfl ?_
 exact ⟨rfl, n9⟩
set_option maxHeartbeats 8000000 in
theorem next_none (s : Int) (A : Option Addr) (cc : Nat) (tok at_ dg c0 c1 c2 c3 : Int) (B : Option Addr) (m mc : Nat) (now : Int) (p : Nat) (w0 w : World) (hB : Below w0.heap.size w0 w) (hp : w0.heap.size ≤ p) (hs0 : 0 ≤ s) (hs : s < 1099511627776) (hv : Kd.V kCh 34 w 0 (fun k => k ≠ p) (.slice A 0 cc) []) (h0 : 0 ≤ dg) (h1 : dg ≤ 1099511627776) (h2 : 0 ≤ now) (h3 : now ≤ 1099511627776) (hd : now - dg < c3)
  (tp : w.heap[p]? = some (.cells (tc s (.slice A 0 cc) false tok at_ false dg c0 c1 c2 c3 (.slice B m mc) now) TT (0, 0))) :
  Calls Try.prog 52 #[.pointer (some ⟨p, 0, none⟩)] w fun e w' => e = .returned (.tuple #[.agg #[(.int .i64 0), (.int .i64 0), (.bool false), (.string ⟨#[]⟩), (.int .i64 0), (.int .i64 0), (.int .i64 0), (.string ⟨#[]⟩), (.int .u64 0), (.slice none 0 0)], .bool false]) ∧ Next w0 w w' p (tc s (.slice A 0 cc) false tok at_ false dg c0 c1 c2 c3 (.slice B m mc) now) := by
 have r0 := (blk_cell tp 0).trans rfl
 have hpl := blk_lt tp
 go_enter Try.func52, Try.ntmps52
 go_upto_region 1 with (fail)
 generalize hg : World.alloc _ _ = w1
 have hb1 := al_below hg
 have T2 := al_new hg
 have tp1 := blk_below tp hb1
 have hB1 := below_step hB hb1
 have hwz := hB.size
 have r0' := pw_cell_below hb1 r0
 clear hg r0 hB
 obtain ⟨p2, hp2⟩ : ∃ x, x = w.heap.size := ⟨_, rfl⟩
 rw [← hp2] at T2
 rw [← hp2]
 have hlt2 := blk_lt T2
 go_upto_region 2 with (fail)
 generalize hg : World.alloc _ _ = w2
 have hb2 := al_below hg
 have T4 := al_new hg
 have tp2 := blk_below tp1 hb2
 have T2' := blk_below T2 hb2
 have hB2 := below_step hB1 hb2
 have hbw := below_step hb1 hb2
 clear hg r0' hB1 tp1 T2
 obtain ⟨q, hq⟩ : ∃ x, x = w1.heap.size := ⟨_, rfl⟩
 rw [← hq] at T4
 rw [← hq]
 have hne : p ≠ q := by omega
 have hq0 : w0.heap.size ≤ q := by omega
 have hqw : w.heap.size ≤ q := by omega
 have hpq : p2 ≠ q := by omega
 have hpp : p ≠ p2 := by omega
 have hpw : w.heap.size ≤ p2 := by omega
 have hp0 : w0.heap.size ≤ p2 := by omega
 have hqp : ∀ k, k < w.heap.size → k ≠ q ∧ k ≠ p2 := fun k hk => ⟨by omega, by omega⟩
 clear hq hp2 hlt2 hwz
 have hv2 := Kd.V_below hv hbw
 go_wp2
 refine wp_loop_rounds 4 ?_
 rw [rounds_succ]
 go_wp2_with fail
 refine (snapshot_no s _ false tok at_ dg c0 c1 c2 c3 _ now p q w2 tp2).mono ?_
 rintro e w3 ⟨rfl, rfl⟩
 go_wp2
 rw [rounds_succ]
 go_wp2_with fail
 refine (delta_no s A cc false tok at_ false dg c0 c1 c2 c3 _ now p q (fun k => k ≠ p) w3 tp2 hv2).mono ?_
 rintro e w4 ⟨rfl, hb⟩
 have tp4 := blk_below tp2 hb
 have T44 := blk_below T4 hb
 have T24 := blk_below T2' hb
 have hB4 := below_step hB2 hb
 have hbw4 := below_step hbw hb
 clear hb tp2 T4 T2' hB2 hbw
 go_wp2
 rw [rounds_succ]
 go_wp2_with fail
 refine (digest_no s _ false tok at_ false dg c0 c1 c2 c3 _ now h0 h1 h2 h3 hd p q w4 tp4).mono ?_
 rintro e w5 ⟨rfl, hb⟩
 have tp5 := blk_below tp4 hb
 have T25 := blk_below T24 hb
 have HN : Next w0 w w5 p _ := ⟨below_step hB4 hb, tp5, Nat.le_trans hbw4.size hb.size, fun k h1 h2 => (hb.block k (Nat.lt_of_lt_of_le h1 hbw4.size)).trans (hbw4.block k h1)⟩
 clear hb tp4 T44 T24 hB4 hbw4 hv2 hv h0 h1 h2 h3 hd
 go_wp2
 rw [rounds_succ]
 have k0 := (blk_cell T25 0).trans rfl
 have z0 := blk_frozen T25 0
 have k1 := (blk_cell T25 1).trans rfl
 have z1 := blk_frozen T25 1
 have k2 := (blk_cell T25 2).trans rfl
 have z2 := blk_frozen T25 2
 have k3 := (blk_cell T25 3).trans rfl
 have z3 := blk_frozen T25 3
 have k4 := (blk_cell T25 4).trans rfl
 have z4 := blk_frozen T25 4
 have k5 := (blk_cell T25 5).trans rfl
 have z5 := blk_frozen T25 5
 have k6 := (blk_cell T25 6).trans rfl
 have z6 := blk_frozen T25 6
 have k7 := (blk_cell T25 7).trans rfl
 have z7 := blk_frozen T25 7
 have k8 := (blk_cell T25 8).trans rfl
 have z8 := blk_frozen T25 8
 have k9 := (blk_cell T25 9).trans rfl
 have z9 := blk_frozen T25 9
 go_wp2
 have b0 : (w5.setCell ⟨p2, 0, none⟩ (.int .i64 0)).heap[p2]? = some (.cells #[(.int .i64 0), (.int .i64 0), (.bool false), (.string ⟨#[]⟩), (.int .i64 0), (.int .i64 0), (.int .i64 0), (.string ⟨#[]⟩), (.int .u64 0), (.slice none 0 0)] TF (0, 0)) := blk_set T25 0 _
 have n0 := HN.setq hpw hp0 hpp 0 (.int .i64 0)
 have b1 : ((w5.setCell ⟨p2, 0, none⟩ (.int .i64 0)).setCell ⟨p2, 1, none⟩ (.int .i64 0)).heap[p2]? = some (.cells #[(.int .i64 0), (.int .i64 0), (.bool false), (.string ⟨#[]⟩), (.int .i64 0), (.int .i64 0), (.int .i64 0), (.string ⟨#[]⟩), (.int .u64 0), (.slice none 0 0)] TF (0, 0)) := blk_set b0 1 _
 have n1 := n0.setq hpw hp0 hpp 1 (.int .i64 0)
 have b2 : (((w5.setCell ⟨p2, 0, none⟩ (.int .i64 0)).setCell ⟨p2, 1, none⟩ (.int .i64 0)).setCell ⟨p2, 2, none⟩ (.bool false)).heap[p2]? = some (.cells #[(.int .i64 0), (.int .i64 0), (.bool false), (.string ⟨#[]⟩), (.int .i64 0), (.int .i64 0), (.int .i64 0), (.string ⟨#[]⟩), (.int .u64 0), (.slice none 0 0)] TF (0, 0)) := blk_set b1 2 _
 have n2 := n1.setq hpw hp0 hpp 2 (.bool false)
 have b3 : ((((w5.setCell ⟨p2, 0, none⟩ (.int .i64 0)).setCell ⟨p2, 1, none⟩ (.int .i64 0)).setCell ⟨p2, 2, none⟩ (.bool false)).setCell ⟨p2, 3, none⟩ (.string ⟨#[]⟩)).heap[p2]? = some (.cells #[(.int .i64 0), (.int .i64 0), (.bool false), (.string ⟨#[]⟩), (.int .i64 0), (.int .i64 0), (.int .i64 0), (.string ⟨#[]⟩), (.int .u64 0), (.slice none 0 0)] TF (0, 0)) := blk_set b2 3 _
 have n3 := n2.setq hpw hp0 hpp 3 (.string ⟨#[]⟩)
 have b4 : (((((w5.setCell ⟨p2, 0, none⟩ (.int .i64 0)).setCell ⟨p2, 1, none⟩ (.int .i64 0)).setCell ⟨p2, 2, none⟩ (.bool false)).setCell ⟨p2, 3, none⟩ (.string ⟨#[]⟩)).setCell ⟨p2, 4, none⟩ (.int .i64 0)).heap[p2]? = some (.cells #[(.int .i64 0), (.int .i64 0), (.bool false), (.string ⟨#[]⟩), (.int .i64 0), (.int .i64 0), (.int .i64 0), (.string ⟨#[]⟩), (.int .u64 0), (.slice none 0 0)] TF (0, 0)) := blk_set b3 4 _
 have n4 := n3.setq hpw hp0 hpp 4 (.int .i64 0)
 have b5 : ((((((w5.setCell ⟨p2, 0, none⟩ (.int .i64 0)).setCell ⟨p2, 1, none⟩ (.int .i64 0)).setCell ⟨p2, 2, none⟩ (.bool false)).setCell ⟨p2, 3, none⟩ (.string ⟨#[]⟩)).setCell ⟨p2, 4, none⟩ (.int .i64 0)).setCell ⟨p2, 5, none⟩ (.int .i64 0)).heap[p2]? = some (.cells #[(.int .i64 0), (.int .i64 0), (.bool false), (.string ⟨#[]⟩), (.int .i64 0), (.int .i64 0), (.int .i64 0), (.string ⟨#[]⟩), (.int .u64 0), (.slice none 0 0)] TF (0, 0)) := blk_set b4 5 _
 have n5 := n4.setq hpw hp0 hpp 5 (.int .i64 0)
 have b6 : (((((((w5.setCell ⟨p2, 0, none⟩ (.int .i64 0)).setCell ⟨p2, 1, none⟩ (.int .i64 0)).setCell ⟨p2, 2, none⟩ (.bool false)).setCell ⟨p2, 3, none⟩ (.string ⟨#[]⟩)).setCell ⟨p2, 4, none⟩ (.int .i64 0)).setCell ⟨p2, 5, none⟩ (.int .i64 0)).setCell ⟨p2, 6, none⟩ (.int .i64 0)).heap[p2]? = some (.cells #[(.int .i64 0), (.int .i64 0), (.bool false), (.string ⟨#[]⟩), (.int .i64 0), (.int .i64 0), (.int .i64 0), (.string ⟨#[]⟩), (.int .u64 0), (.slice none 0 0)] TF (0, 0)) := blk_set b5 6 _
 have n6 := n5.setq hpw hp0 hpp 6 (.int .i64 0)
 have b7 : ((((((((w5.setCell ⟨p2, 0, none⟩ (.int .i64 0)).setCell ⟨p2, 1, none⟩ (.int .i64 0)).setCell ⟨p2, 2, none⟩ (.bool false)).setCell ⟨p2, 3, none⟩ (.string ⟨#[]⟩)).setCell ⟨p2, 4, none⟩ (.int .i64 0)).setCell ⟨p2, 5, none⟩ (.int .i64 0)).setCell ⟨p2, 6, none⟩ (.int .i64 0)).setCell ⟨p2, 7, none⟩ (.string ⟨#[]⟩)).heap[p2]? = some (.cells #[(.int .i64 0), (.int .i64 0), (.bool false), (.string ⟨#[]⟩), (.int .i64 0), (.int .i64 0), (.int .i64 0), (.string ⟨#[]⟩), (.int .u64 0), (.slice none 0 0)] TF (0, 0)) := blk_set b6 7 _
 have n7 := n6.setq hpw hp0 hpp 7 (.string ⟨#[]⟩)
 have b8 : (((((((((w5.setCell ⟨p2, 0, none⟩ (.int .i64 0)).setCell ⟨p2, 1, none⟩ (.int .i64 0)).setCell ⟨p2, 2, none⟩ (.bool false)).setCell ⟨p2, 3, none⟩ (.string ⟨#[]⟩)).setCell ⟨p2, 4, none⟩ (.int .i64 0)).setCell ⟨p2, 5, none⟩ (.int .i64 0)).setCell ⟨p2, 6, none⟩ (.int .i64 0)).setCell ⟨p2, 7, none⟩ (.string ⟨#[]⟩)).setCell ⟨p2, 8, none⟩ (.int .u64 0)).heap[p2]? = some (.cells #[(.int .i64 0), (.int .i64 0), (.bool false), (.string ⟨#[]⟩), (.int .i64 0), (.int .i64 0), (.int .i64 0), (.string ⟨#[]⟩), (.int .u64 0), (.slice none 0 0)] TF (0, 0)) := blk_set b7 8 _
 have n8 := n7.setq hpw hp0 hpp 8 (.int .u64 0)
 have b9 : ((((((((((w5.setCell ⟨p2, 0, none⟩ (.int .i64 0)).setCell ⟨p2, 1, none⟩ (.int .i64 0)).setCell ⟨p2, 2, none⟩ (.bool false)).setCell ⟨p2, 3, none⟩ (.string ⟨#[]⟩)).setCell ⟨p2, 4, none⟩ (.int .i64 0)).setCell ⟨p2, 5, none⟩ (.int .i64 0)).setCell ⟨p2, 6, none⟩ (.int .i64 0)).setCell ⟨p2, 7, none⟩ (.string ⟨#[]⟩)).setCell ⟨p2, 8, none⟩ (.int .u64 0)).setCell ⟨p2, 9, none⟩ (.slice none 0 0)).heap[p2]? = some (.cells #[(.int .i64 0), (.int .i64 0), (.bool false), (.string ⟨#[]⟩), (.int .i64 0), (.int .i64 0), (.int .i64 0), (.string ⟨#[]⟩), (.int .u64 0), (.slice none 0 0)] TF (0, 0)) := blk_set b8 9 _
 have n9 := n8.setq hpw hp0 hpp 9 (.slice none 0 0)
 generalize hwf : ((((((((((w5.setCell ⟨p2, 0, none⟩ (.int .i64 0)).setCell ⟨p2, 1, none⟩ (.int .i64 0)).setCell ⟨p2, 2, none⟩ (.bool false)).setCell ⟨p2, 3, none⟩ (.string ⟨#[]⟩)).setCell ⟨p2, 4, none⟩ (.int .i64 0)).setCell ⟨p2, 5, none⟩ (.int .i64 0)).setCell ⟨p2, 6, none⟩ (.int .i64 0)).setCell ⟨p2, 7, none⟩ (.string ⟨#[]⟩)).setCell ⟨p2, 8, none⟩ (.int .u64 0)).setCell ⟨p2, 9, none⟩ (.slice none 0 0)) = wf at b9 n9 ⊢
 clear b0 n0 b1 n1 b2 n2 b3 n3 b4 n4 b5 n5 b6 n6 b7 n7 b8 n8
 refine bodyPost_ret (results_ct rfl _ _ p2 TF #[(.int .i64 0), (.int .i64 0), (.bool false), (.string ⟨#[]⟩), (.int .i64 0), (.int .i64 0), (.int .i64 0), (.string ⟨#[]⟩), (.int .u64 0), (.slice none 0 0)] (0, 0) _ rfl b9 Try.underlying60 rfl (by kernel_rfl)) rfl ?_
 exact ⟨rfl, n9⟩
end Go.Proofs.Ytmigglldahkngaa.XTell
end

section
/- Whole numbers below 2^53 as floats: sums, differences, products and the way back are exact. No program is in sight. -/
namespace Go.Proofs.Ytmigglldahkngaa.XFloat
open Go Ieee
/-- A whole number's float. -/
def fl (n : Nat) : Nat := floatOfInt .f64 (n : Int)
theorem fl_def (n : Nat) : fl n = Ieee.double.nearest false n 0 := by
 show FloatKind.nearest .f64 (n : Int) = _
 unfold FloatKind.nearest FloatKind.encode FloatKind.format
 have h : decide ((n : Int) < 0) = false := decide_eq_false (by omega)
 rw [h]
 rfl
theorem cut_even (neg : Bool) (m d : Nat) (hd : d ≤ (m <<< d).log2 + 2) : Toward.even.cut neg (m <<< d) d = m := by
 unfold Toward.cut
 rw [Nat.min_eq_left hd]
 have hp : 0 < 2 ^ d := Nat.two_pow_pos d
 have e1 : (1 : Nat) <<< d = 2 ^ d := by rw [Nat.shiftLeft_eq, Nat.one_mul]
 rw [e1, Nat.shiftLeft_eq]
 dsimp only
 rw [Nat.mul_div_cancel _ hp, Nat.mul_mod_left]
 have e2 : (2 ^ d == 2 * 0) = false := by simp
 simp only [Nat.mul_zero, Nat.not_lt_zero, decide_false, Bool.false_or]
 have e3 : (2 ^ d == 0) = false := by simp
 rw [e3]
 rfl
theorem cut_zero (neg : Bool) (m d : Nat) (hd : m = 0 ∨ d ≤ (m <<< d).log2 + 2) : Toward.zero.cut neg (m <<< d) d = m := by
 unfold Toward.cut
 rcases hd with h | h
 ·subst h
  simp
 ·rw [Nat.min_eq_left h]
  have hp : 0 < 2 ^ d := Nat.two_pow_pos d
  have e1 : (1 : Nat) <<< d = 2 ^ d := by rw [Nat.shiftLeft_eq, Nat.one_mul]
  rw [e1, Nat.shiftLeft_eq]
  dsimp only
  rw [Nat.mul_div_cancel _ hp]
  rfl
theorem log2_shift (n k : Nat) (hn : n ≠ 0) : (n <<< k).log2 = n.log2 + k := by
 have h := Nat.log2_self_le hn
 have h2 := Nat.lt_log2_self (n := n)
 have hne : n <<< k ≠ 0 := by rw [Nat.shiftLeft_eq]; exact Nat.mul_ne_zero hn (Nat.ne_of_gt (Nat.two_pow_pos k))
 have hp : 0 < 2 ^ k := Nat.two_pow_pos k
 refine Nat.le_antisymm ?_ ?_
 ·refine Nat.le_of_lt_succ ((Nat.log2_lt hne).2 ?_)
  rw [Nat.shiftLeft_eq, show (n.log2 + k).succ = (n.log2 + 1) + k by omega, Nat.pow_add]
  exact Nat.mul_lt_mul_of_pos_right h2 hp
 ·refine (Nat.le_log2 hne).2 ?_
  rw [Nat.shiftLeft_eq, Nat.pow_add]
  exact Nat.mul_le_mul_right _ h
theorem log2_lt53 {n : Nat} (hn : n ≠ 0) (h : n < 2 ^ 53) : n.log2 ≤ 52 := Nat.le_of_lt_succ ((Nat.log2_lt hn).2 h)
/-- The rung of a whole number. -/
def rung (n : Nat) : Nat := if n = 0 then 0 else (n.log2 + 1022) * 2 ^ 52 + n <<< (52 - n.log2)
theorem kept_lt {n : Nat} (hn : n ≠ 0) (h : n < 2 ^ 53) : 2 ^ 52 ≤ n <<< (52 - n.log2) ∧ n <<< (52 - n.log2) < 2 ^ 53 := by
 have hl := log2_lt53 hn h
 have h1 := Nat.log2_self_le hn
 have h2 := Nat.lt_log2_self (n := n)
 rw [Nat.shiftLeft_eq]
 have hp : 0 < 2 ^ (52 - n.log2) := Nat.two_pow_pos _
 constructor
 ·calc 2 ^ 52 = 2 ^ n.log2 * 2 ^ (52 - n.log2) := by rw [← Nat.pow_add]; congr 1; omega
   _ ≤ _ := Nat.mul_le_mul_right _ h1
 ·calc _ < 2 ^ (n.log2 + 1) * 2 ^ (52 - n.log2) := Nat.mul_lt_mul_of_pos_right h2 hp
   _ = 2 ^ 53 := by rw [← Nat.pow_add]; congr 1; omega
theorem min_rung (L m : Nat) (hL : L ≤ 52) (hm : m < 2 ^ 53) : min ((L + 1022) * 2 ^ 52 + m) (2047 * 2 ^ 52) = (L + 1022) * 2 ^ 52 + m := by
 rw [show (2 : Nat) ^ 53 = 2 ^ 52 * 2 by rw [← Nat.pow_succ]] at hm
 generalize (2 : Nat) ^ 52 = B at hm ⊢
 refine Nat.min_eq_left ?_
 have : (L + 1022) * B ≤ 1074 * B := Nat.mul_le_mul_right _ (by omega)
 omega
theorem nearest_at (n k : Nat) (h : n < 2 ^ 53) : Ieee.double.nearest false (n <<< k) (-(k : Int)) = rung n := by
 unfold Format.nearest rung
 by_cases hn : n = 0
 ·subst hn
  simp [Format.word]
 ·have hne : n <<< k ≠ 0 := by rw [Nat.shiftLeft_eq]; exact Nat.mul_ne_zero hn (Nat.ne_of_gt (Nat.two_pow_pos k))
  have hl := log2_lt53 hn h
  have hk := kept_lt hn h
  rw [if_neg hne, if_neg hn]
  have e0 : Ieee.double.leastPlace = -1074 := by decide
  have e1 : (Ieee.double.fractionBits : Int) = 52 := rfl
  have e2 : Ieee.double.binade = 2 ^ 52 := rfl
  have e3 : Ieee.double.infRung = 2047 * 2 ^ 52 := by decide
  have e4 : max (-(k : Int) + ((n <<< k).log2 : Int) - (Ieee.double.fractionBits : Int)) Ieee.double.leastPlace = (n.log2 : Int) - 52 := by
   rw [log2_shift n k hn, e0, e1]; omega
  simp only [e4]
  rw [e0, e2, e3]
  have e5 : ((n.log2 : Int) - 52 - -1074).toNat = n.log2 + 1022 := by omega
  have e6 : Toward.even.cut false ((n <<< k) <<< (-(k : Int) - ((n.log2 : Int) - 52)).toNat) ((n.log2 : Int) - 52 - -(k : Int)).toNat = n <<< (52 - n.log2) := by
   by_cases c : k + n.log2 ≤ 52
   ·rw [show (-(k : Int) - ((n.log2 : Int) - 52)).toNat = 52 - n.log2 - k by omega, show ((n.log2 : Int) - 52 - -(k : Int)).toNat = 0 by omega, ← Nat.shiftLeft_add, show k + (52 - n.log2 - k) = 52 - n.log2 by omega]
    exact cut_even false (n <<< (52 - n.log2)) 0 (Nat.zero_le _)
   ·rw [show (-(k : Int) - ((n.log2 : Int) - 52)).toNat = 0 by omega, show ((n.log2 : Int) - 52 - -(k : Int)).toNat = n.log2 + k - 52 by omega, Nat.shiftLeft_zero]
    have e7 : n <<< k = (n <<< (52 - n.log2)) <<< (n.log2 + k - 52) := by rw [← Nat.shiftLeft_add]; congr 1; omega
    rw [e7]
    refine cut_even false _ _ ?_
    rw [← e7, log2_shift n k hn]
    omega
  rw [e5, e6]
  unfold Format.word
  rw [if_neg (by simp)]
  exact min_rung _ _ hl hk.2
theorem fl_rung (n : Nat) (h : n < 2 ^ 53) : fl n = rung n := by
 rw [fl_def]
 have := nearest_at n 0 h
 rw [Nat.shiftLeft_zero] at this
 exact this
theorem write_at (n k : Nat) (h : n < 2 ^ 53) : Ieee.double.write (.number false (n <<< k) (-(k : Int))) = fl n := by
 rw [fl_rung n h]
 exact nearest_at n k h
theorem read_fl (n : Nat) (h : n < 2 ^ 53) : ∃ k : Nat, Ieee.double.read (fl n) = .number false (n <<< k) (-(k : Int)) ∧ (n ≠ 0 → k ≤ 52) := by
 rw [fl_rung n h]
 unfold rung
 by_cases hn : n = 0
 ·subst hn
  refine ⟨1074, ?_, fun e => absurd rfl e⟩
  rw [if_pos rfl, Nat.zero_shiftLeft]
  decide
 ·rw [if_neg hn]
  have hl := log2_lt53 hn h
  have hk := kept_lt hn h
  refine ⟨52 - n.log2, ?_, fun _ => by omega⟩
  generalize hm : n <<< (52 - n.log2) = m at hk ⊢
  have e0 : Ieee.double.leastPlace = -1074 := by decide
  have e2 : Ieee.double.binade = 2 ^ 52 := rfl
  have e3 : Ieee.double.infRung = 2047 * 2 ^ 52 := by decide
  have e4 : Ieee.double.signWeight = 2 ^ 63 := rfl
  have hb : (n.log2 + 1022) * 2 ^ 52 ≤ 1074 * 2 ^ 52 := Nat.mul_le_mul_right _ (by omega)
  have hx : (n.log2 + 1022) * 2 ^ 52 + m < 2 ^ 63 := by omega
  unfold Format.read
  rw [e4, e2, e3, e0]
  simp only
  rw [Nat.div_eq_of_lt hx, Nat.mod_eq_of_lt hx, if_neg (by omega), if_pos (by omega)]
  have e5 : ((n.log2 + 1022) * 2 ^ 52 + m) % 2 ^ 52 = m - 2 ^ 52 := by omega
  have e6 : ((n.log2 + 1022) * 2 ^ 52 + m) / 2 ^ 52 = n.log2 + 1023 := by omega
  rw [e5, e6]
  have e7 : 2 ^ 52 + (m - 2 ^ 52) = m := by omega
  rw [e7]
  have e8 : (-1074 : Int) + ((n.log2 + 1023 - 1 : Nat) : Int) = -((52 - n.log2 : Nat) : Int) := by omega
  rw [e8]
  rfl
theorem sh_le (n k K : Nat) (h : k ≤ K) : (n <<< k) <<< (K - k) = n <<< K := by rw [← Nat.shiftLeft_add]; congr 1; omega
theorem base_min (i j : Nat) : min (-(i : Int)) (-(j : Int)) = -((max i j : Nat) : Int) := by omega
theorem fl_add (n m : Nat) (h : n + m < 2 ^ 53) : floatBits .add .f64 (fl n) (fl m) = some (fl (n + m)) := by
 obtain ⟨i, hi, _⟩ := read_fl n (by omega)
 obtain ⟨j, hj, _⟩ := read_fl m (by omega)
 show Ieee.double.add (fl n) (fl m) = _
 unfold Format.add
 rw [hi, hj]
 simp only [Datum.sum, base_min, signed, Bool.false_eq_true, if_false, Option.map_some, Bool.and_self]
 rw [show (-(i : Int) - -((max i j : Nat) : Int)).toNat = max i j - i by omega, show (-(j : Int) - -((max i j : Nat) : Int)).toNat = max i j - j by omega, sh_le n i _ (Nat.le_max_left ..), sh_le m j _ (Nat.le_max_right ..)]
 have e : n <<< max i j + m <<< max i j = (n + m) <<< max i j := by rw [Nat.shiftLeft_eq, Nat.shiftLeft_eq, Nat.shiftLeft_eq, Nat.add_mul]
 have e2 : ((n <<< max i j : Nat) : Int) + ((m <<< max i j : Nat) : Int) = (((n + m) <<< max i j : Nat) : Int) := by rw [← e]; omega
 rw [e2]
 have e3 : (if (((n + m) <<< max i j : Nat) : Int) = 0 then false else decide ((((n + m) <<< max i j : Nat) : Int) < 0)) = false := by
  split
  ·rfl
  ·exact decide_eq_false (Int.not_lt.2 (Int.natCast_nonneg _))
 rw [e3, Int.natAbs_natCast, write_at _ _ h]
theorem fl_sub (n m : Nat) (hn : n < 2 ^ 53) (h : m ≤ n) : floatBits .sub .f64 (fl n) (fl m) = some (fl (n - m)) := by
 obtain ⟨i, hi, _⟩ := read_fl n (by omega)
 obtain ⟨j, hj, _⟩ := read_fl m (by omega)
 show Ieee.double.sub (fl n) (fl m) = _
 unfold Format.sub
 rw [hi, hj]
 simp only [Datum.opposite, Datum.sum, base_min, signed, Bool.false_eq_true, if_false, Option.map_some, Bool.not_false, if_true, Bool.false_and]
 rw [show (-(i : Int) - -((max i j : Nat) : Int)).toNat = max i j - i by omega, show (-(j : Int) - -((max i j : Nat) : Int)).toNat = max i j - j by omega, sh_le n i _ (Nat.le_max_left ..), sh_le m j _ (Nat.le_max_right ..)]
 have e : n <<< max i j = (n - m) <<< max i j + m <<< max i j := by rw [Nat.shiftLeft_eq, Nat.shiftLeft_eq, Nat.shiftLeft_eq, ← Nat.add_mul, Nat.sub_add_cancel h]
 have e2 : ((n <<< max i j : Nat) : Int) + -((m <<< max i j : Nat) : Int) = (((n - m) <<< max i j : Nat) : Int) := by omega
 rw [e2]
 have e3 : (if (((n - m) <<< max i j : Nat) : Int) = 0 then false else decide ((((n - m) <<< max i j : Nat) : Int) < 0)) = false := by
  split
  ·rfl
  ·exact decide_eq_false (Int.not_lt.2 (Int.natCast_nonneg _))
 rw [e3, Int.natAbs_natCast, write_at _ _ (by omega)]
theorem fl_mul (n m : Nat) (hn : n < 2 ^ 53) (hm : m < 2 ^ 53) (h : n * m < 2 ^ 53) : floatBits .mul .f64 (fl n) (fl m) = some (fl (n * m)) := by
 obtain ⟨i, hi, _⟩ := read_fl n hn
 obtain ⟨j, hj, _⟩ := read_fl m hm
 show Ieee.double.mul (fl n) (fl m) = _
 unfold Format.mul
 rw [hi, hj]
 simp only [Datum.product, Bool.xor_self, Option.map_some]
 have e : n <<< i * m <<< j = (n * m) <<< (i + j) := by rw [Nat.shiftLeft_eq, Nat.shiftLeft_eq, Nat.shiftLeft_eq, Nat.pow_add, Nat.mul_mul_mul_comm]
 have e2 : -(i : Int) + -(j : Int) = -((i + j : Nat) : Int) := by omega
 rw [e, e2, write_at _ _ h]
theorem fl_int (n : Nat) (h : n < 2 ^ 53) : floatToIntVal .f64 (fl n) .i64 = some (n : Int) := by
 obtain ⟨i, hi, h2⟩ := read_fl n h
 unfold floatToIntVal
 have e : (FloatKind.decode .f64 (fl n)).toInt .zero = some (n : Int) := by
  show (Ieee.double.read (fl n)).toInt .zero = _
  rw [hi]
  unfold Datum.toInt Datum.integral
  simp only
  rw [show (-(i : Int)).toNat = 0 by omega, show (- -(i : Int)).toNat = i by omega, Nat.shiftLeft_zero]
  rw [cut_zero false n i (by
   by_cases hn : n = 0
   ·exact Or.inl hn
   ·right; rw [log2_shift n i hn]; omega)]
  simp [signed]
 rw [e]
 simp only
 rw [if_pos]
 constructor
 ·show (IntKind.i64.min : Int) ≤ n
  have : IntKind.i64.min = -9223372036854775808 := by decide
  omega
 ·have : IntKind.i64.max = 9223372036854775807 := by decide
  omega
theorem fl_wf (n : Nat) : (Lit.float .f64 (fl n)).wf = true := floatOfInt_wf .f64 n
theorem fl_one : (4607182418800017408 : Nat) = fl 1 := by decide
theorem fl_zero : (0 : Nat) = fl 0 := by decide
end Go.Proofs.Ytmigglldahkngaa.XFloat
end

section
/- pace's numbers on the complex plane, walked: a bucket's point, a point's bucket, a bucket as it is later, a token taken. -/
namespace Go.Proofs.Ytmigglldahkngaa.XPace
open Go.RowKit Go.Proofs.YtmigglldahkngaaW.PrintWords Go.Proofs.YtmigglldahkngaaW.PrintLast Go.Proofs.YtmigglldahkngaaW.PrintMore Go.Proofs.Ytmigglldahkngaa.PA Go.Proofs.Ytmigglldahkngaa.XMem Go.Proofs.Ytmigglldahkngaa.XFloat
set_option linter.unusedVariables false
set_option linter.unusedSimpArgs false
set_option maxRecDepth 100000
theorem point_calls (t a : Int) (x y : Nat) (hx : floatOfInt .f64 t = x) (hy : floatOfInt .f64 a = y) (w : World) :
  Calls Try.prog 74 #[.agg #[.int .i64 t, .int .i64 a]] w fun e w' => e = .returned (.complex .f64 x y) ∧ Below w.heap.size w w' := by
 subst hx
 subst hy
 go_enter Try.func74, Try.ntmps74
 have HB : Below w.heap.size w w := Below.refl _ _
 have hM : Mem w [] := Mem.nil w
 go_upto_region 1 with (fail)
 generalize hg : World.alloc _ _ = w1
 obtain ⟨hB', hM', hb⟩ := Mem.new hg HB hM
 clear HB hM hg hb
 generalize w.heap.size = p at hM' ⊢
 have q0 := hM'.cell 0 0 rfl rfl
 have q1 := hM'.cell 0 1 rfl rfl
 go_wp2
 go_ret
 exact ⟨rfl, hB'⟩
theorem someU121 : (Try.prog.underlying 121).isSome = true := by rw [Try.underlying121]; rfl
theorem bucket_calls (t a : Nat) (ht : t < 2 ^ 53) (ha : a < 2 ^ 53) (w : World) :
  Calls Try.prog 73 #[.complex .f64 (fl t) (fl a)] w fun e w' => e = .returned (.agg #[.int .i64 t, .int .i64 a]) ∧ Below w.heap.size w w' := by
 have h1 := Aside0.mk (fl_int t ht)
 have h2 := Aside0.mk (fl_int a ha)
 generalize fl t = x at h1 ⊢
 generalize fl a = y at h2 ⊢
 clear ht ha
 generalize (t : Int) = t at h1 ⊢
 generalize (a : Int) = a at h2 ⊢
 go_enter Try.func73, Try.ntmps73
 have HB : Below w.heap.size w w := Below.refl _ _
 have hM : Mem w [] := Mem.nil w
 go_upto_region 1 with (fail)
 generalize hg : World.alloc _ _ = w1
 obtain ⟨hB', hM', hb⟩ := Mem.new hg HB hM
 have T := al_new hg
 have hz : w.heap.size ≤ w.heap.size := Nat.le_refl _
 clear HB hM hg hb hM'
 generalize hp : w.heap.size = p at T ⊢
 have k0 := (blk_cell T 0).trans rfl
 have k1 := (blk_cell T 1).trans rfl
 have z0 := blk_frozen T 0
 have z1 := blk_frozen T 1
 go_wp2_with (first | (rw [run_convert_float_int _ 121 3 .f64 .i64 x t someU121 Try.underlying3 h1.out]; go_simp) | (rw [run_convert_float_int _ 121 3 .f64 .i64 y a someU121 Try.underlying3 h2.out]; go_simp))
 refine bodyPost_ret (results_cell_row rfl _ _ p 28 #[.int .i64 t, .int .i64 a] (0, 0) _ rfl (blk_set (blk_set T 0 _) 1 _) Try.underlying28 rfl (by kernel_rfl)) rfl ?_
 refine ⟨rfl, ?_⟩
 exact below_set (below_set hB' (Nat.le_of_eq hp)) (Nat.le_of_eq hp)
theorem Mem.new3 {w0 w w1 : World} {L : List (Nat × Obj)} {o o' o'' : Obj} (h : ((w.alloc o).alloc o').alloc o'' = w1) (hB : Below w0.heap.size w0 w) (hM : Mem w L) : Below w0.heap.size w0 w1 ∧ Mem w1 ((w.heap.size + 2, o'') :: (w.heap.size + 1, o') :: (w.heap.size, o) :: L) ∧ Below w.heap.size w w1 := by
 obtain ⟨h1, h2, h3⟩ := Mem.new2 (rfl : (w.alloc o).alloc o' = _) hB hM
 obtain ⟨k1, k2, k3⟩ := Mem.new h h1 h2
 rw [show ((w.alloc o).alloc o').heap.size = w.heap.size + 2 by simp] at k2
 exact ⟨k1, k2, below_step h3 k3⟩
theorem mul_pl (k r : Nat) (hk : k < 2 ^ 53) (hr : r < 2 ^ 53) (h : k * r < 2 ^ 53) : cMulBits (fl k) 0 (fl r) 4607182418800017408 = some (fl (k * r), fl k) := by
 rw [fl_zero, fl_one]
 unfold cMulBits
 rw [fl_mul k r hk hr h, fl_mul 0 1 (by omega) (by omega) (by omega), Option.bind_some, Option.bind_some, show 0 * 1 = 0 from rfl, fl_sub (k * r) 0 h (by omega), Option.bind_some, fl_mul k 1 hk (by omega) (by omega), Option.bind_some, fl_mul 0 r (by omega) hr (by omega), Option.bind_some, Nat.zero_mul, Nat.mul_one, fl_add k 0 (by omega)]
 rfl
theorem add_pl (a b c d : Nat) (h1 : a + c < 2 ^ 53) (h2 : b + d < 2 ^ 53) : cSumBits .add .f64 (fl a) (fl b) (fl c) (fl d) = some (fl (a + c), fl (b + d)) := by
 unfold cSumBits
 rw [fl_add a c h1, fl_add b d h2]
 rfl
theorem sub_pl (a b : Nat) (h1 : a < 2 ^ 53) (h2 : b < 2 ^ 53) (h3 : 1 ≤ a) : cSumBits .sub .f64 (fl a) (fl b) 4607182418800017408 0 = some (fl (a - 1), fl b) := by
 rw [fl_zero, fl_one]
 unfold cSumBits
 rw [fl_sub a 1 h1 h3, fl_sub b 0 h2 (by omega)]
 rfl
attribute [local go_sem] max2_int min2_int max_two min_two
set_option maxHeartbeats 4000000 in
theorem later_late (c0 c1 c3 : Int) (r t a now k : Nat) (hr : r ≤ 16) (ht : t ≤ 64) (ha : a ≤ 1099511627776) (hn : now ≤ 1099511627776) (h0 : a < now) (hk : k = now - a) (m : Int) (hm : m = mn ((t + k * r : Nat) : Int) c1) (w : World) :
  Calls Try.prog 72 #[.agg #[.int .i64 c0, .int .i64 c1, .int .i64 r, .int .i64 c3], .agg #[.int .i64 t, .int .i64 a], .int .i64 now] w fun e w' => e = .returned (.agg #[.int .i64 m, .int .i64 (a + k : Nat)]) ∧ Below w.heap.size w w' := by
 have hkr : k * r ≤ 1099511627776 * 16 := Nat.mul_le_mul (by omega) hr
 have HM := Aside0.mk (mul_pl k r (by omega) (by omega) (by omega))
 have HA := Aside0.mk (add_pl t a (k * r) k (by omega) (by omega))
 have HP := Aside0.mk (fun w => point_calls (t : Int) (a : Int) (fl t) (fl a) rfl rfl w)
 have HB := Aside0.mk (fun w => bucket_calls (t + k * r) (a + k) (by omega) (by omega) w)
 have hs : wrap64 ((now : Int) - (a : Int)) = (k : Int) := by unfold wrap64; omega
 have h0' : (0 : Int) < (k : Int) := by omega
 have hf : floatOfInt .f64 (k : Int) = fl k := rfl
 have hf2 : floatOfInt .f64 (r : Int) = fl r := rfl
 generalize fl k = fk at HM HA hf
 generalize fl r = fr at HM hf2
 generalize fl t = ft at HA HP
 generalize fl a = fa at HA HP
 generalize fl (k * r) = fkr at HM HA
 generalize fl (t + k * r) = fz at HA HB
 generalize fl (a + k) = fy at HA HB
 generalize ((t + k * r : Nat) : Int) = z at HB hm ⊢
 generalize ((a + k : Nat) : Int) = y at HB ⊢
 generalize (k : Int) = ki at hs h0' hf
 clear hr ht ha hn hk hkr h0
 go_enter Try.func72, Try.ntmps72
 have hB : Below w.heap.size w w := Below.refl _ _
 have hM : Mem w [] := Mem.nil w
 go_upto_region 1 with (fail)
 generalize hg : World.alloc _ _ = w1
 obtain ⟨hB1, hM1, hb⟩ := Mem.new3 hg hB hM
 clear hB hM hg hb
 generalize h3 : w.heap.size = p3 at hM1 ⊢
 have q1 := hM1.cell 2 1 rfl rfl
 have q2 := hM1.cell 2 2 rfl rfl
 have u0 := hM1.cell 1 0 rfl rfl
 have u1 := hM1.cell 1 1 rfl rfl
 go_wp2_with fail
 refine (HP.out w1).mono ?_
 rintro e w2 ⟨rfl, hb⟩
 replace hB1 := below_step hB1 hb
 replace hM1 := hM1.below hb
 clear hb u0 u1 q1 q2 HP
 go_wp2_with (first | (rw [run_complex_mul _ 104 _ _ _ _ _ _ HM.out]; go_simp) | (rw [run_complex_sum _ .add (.inl rfl) 104 .f64 _ _ _ _ _ _ HA.out]; go_simp) | fail)
 refine (HB.out w2).mono ?_
 rintro e w3 ⟨rfl, hb⟩
 replace hB1 := below_step hB1 hb
 replace hM1 := hM1.below hb
 clear hb HB HM HA
 have T3 := hM1.get 2 rfl
 have T4 := hM1.get 1 rfl
 have T6 := hM1.get 0 rfl
 have q1 := hM1.cell 2 1 rfl rfl
 have u0 := (blk_cell T4 0).trans rfl
 have u1 := (blk_cell T4 1).trans rfl
 have z0 := blk_frozen T4 0
 have z1 := blk_frozen T4 1
 clear hM1
 go_upto_region 4 with (fail)
 have T4' := blk_set (blk_set T4 0 (.int .i64 z)) 1 (.int .i64 y)
 have T3' := blk_far (blk_far T3 (p := ⟨p3 + 1, 0, none⟩) (by show p3 ≠ p3 + 1; omega) (.int .i64 z)) (p := ⟨p3 + 1, 1, none⟩) (by show p3 ≠ p3 + 1; omega) (.int .i64 y)
 have T6' := blk_far (blk_far T6 (p := ⟨p3 + 1, 0, none⟩) (by show p3 + 2 ≠ p3 + 1; omega) (.int .i64 z)) (p := ⟨p3 + 1, 1, none⟩) (by show p3 + 2 ≠ p3 + 1; omega) (.int .i64 y)
 replace hB1 := below_set (j := 1) (v := .int .i64 y) (below_set (j := 0) (v := .int .i64 z) hB1 (g := p3 + 1) (by omega)) (g := p3 + 1) (by omega)
 generalize (w3.setCell ⟨p3 + 1, 0, none⟩ (.int .i64 z)).setCell ⟨p3 + 1, 1, none⟩ (.int .i64 y) = w4 at T4' T3' T6' hB1 ⊢
 clear T3 T4 T6 q1 u0 u1 z0 z1
 have q1 := (blk_cell T3' 1).trans rfl
 have u0 := (blk_cell T4' 0).trans rfl
 have z0 := blk_frozen T4' 0
 by_cases hzc : c1 < z
 ·have hmz : m = c1 := by rw [hm]; unfold mn; rw [if_pos hzc]
  subst hmz
  clear hm
  go_upto_region 5 with (fail)
  have T4 := blk_set T4' 0 (.int .i64 m)
  have T6 := blk_far T6' (p := ⟨p3 + 1, 0, none⟩) (by show p3 + 2 ≠ p3 + 1; omega) (.int .i64 m)
  replace hB1 := below_set (j := 0) (v := .int .i64 m) hB1 (g := p3 + 1) (by omega)
  generalize w4.setCell ⟨p3 + 1, 0, none⟩ (.int .i64 m) = w5 at T4 T6 hB1 ⊢
  clear T3' T4' T6' q1 u0 z0
  have u0 := (blk_cell T4 0).trans rfl
  have u1 := (blk_cell T4 1).trans rfl
  have k0 := (blk_cell T6 0).trans rfl
  have k1 := (blk_cell T6 1).trans rfl
  have z0 := blk_frozen T6 0
  have z1 := blk_frozen T6 1
  go_wp2
  refine bodyPost_ret (results_cell_row rfl _ _ (p3 + 2) 28 #[.int .i64 m, .int .i64 y] (0, 0) _ rfl (blk_set (blk_set T6 0 _) 1 _) Try.underlying28 rfl (by kernel_rfl)) rfl ?_
  exact ⟨rfl, below_set (below_set hB1 (by omega)) (by omega)⟩
 ·have hmz : m = z := by rw [hm]; unfold mn; rw [if_neg hzc]
  subst hmz
  clear hm
  have hzc' : m ≤ c1 := by omega
  clear hzc
  go_upto_region 5 with (fail)
  have T4 := blk_set T4' 0 (.int .i64 m)
  have T6 := blk_far T6' (p := ⟨p3 + 1, 0, none⟩) (by show p3 + 2 ≠ p3 + 1; omega) (.int .i64 m)
  replace hB1 := below_set (j := 0) (v := .int .i64 m) hB1 (g := p3 + 1) (by omega)
  generalize w4.setCell ⟨p3 + 1, 0, none⟩ (.int .i64 m) = w5 at T4 T6 hB1 ⊢
  clear T3' T4' T6' q1 u0 z0
  have u0 := (blk_cell T4 0).trans rfl
  have u1 := (blk_cell T4 1).trans rfl
  have k0 := (blk_cell T6 0).trans rfl
  have k1 := (blk_cell T6 1).trans rfl
  have z0 := blk_frozen T6 0
  have z1 := blk_frozen T6 1
  go_wp2
  refine bodyPost_ret (results_cell_row rfl _ _ (p3 + 2) 28 #[.int .i64 m, .int .i64 y] (0, 0) _ rfl (blk_set (blk_set T6 0 _) 1 _) Try.underlying28 rfl (by kernel_rfl)) rfl ?_
  exact ⟨rfl, below_set (below_set hB1 (by omega)) (by omega)⟩
set_option maxHeartbeats 4000000 in
theorem later_early (c0 c1 c3 : Int) (r t a now k : Nat) (hr : r ≤ 16) (ht : t ≤ 64) (ha : a ≤ 1099511627776) (hn : now ≤ 1099511627776) (h0 : now ≤ a) (hk : k = 0) (m : Int) (hm : m = mn ((t + k * r : Nat) : Int) c1) (w : World) :
  Calls Try.prog 72 #[.agg #[.int .i64 c0, .int .i64 c1, .int .i64 r, .int .i64 c3], .agg #[.int .i64 t, .int .i64 a], .int .i64 now] w fun e w' => e = .returned (.agg #[.int .i64 m, .int .i64 (a + k : Nat)]) ∧ Below w.heap.size w w' := by
 have hkr : k * r ≤ 1099511627776 * 16 := Nat.mul_le_mul (by omega) hr
 have HM := Aside0.mk (mul_pl k r (by omega) (by omega) (by omega))
 have HA := Aside0.mk (add_pl t a (k * r) k (by omega) (by omega))
 have HP := Aside0.mk (fun w => point_calls (t : Int) (a : Int) (fl t) (fl a) rfl rfl w)
 have HB := Aside0.mk (fun w => bucket_calls (t + k * r) (a + k) (by omega) (by omega) w)
 have hs : wrap64 ((now : Int) - (a : Int)) = (now : Int) - (a : Int) := by unfold wrap64; omega
 have h0' : (now : Int) - (a : Int) ≤ 0 := by omega
 have hf : floatOfInt .f64 0 = fl k := by rw [hk]; rfl
 have hf2 : floatOfInt .f64 (r : Int) = fl r := rfl
 generalize fl k = fk at HM HA hf
 generalize fl r = fr at HM hf2
 generalize fl t = ft at HA HP
 generalize fl a = fa at HA HP
 generalize fl (k * r) = fkr at HM HA
 generalize fl (t + k * r) = fz at HA HB
 generalize fl (a + k) = fy at HA HB
 generalize ((t + k * r : Nat) : Int) = z at HB hm ⊢
 generalize ((a + k : Nat) : Int) = y at HB ⊢
 clear hr ht ha hn hk hkr h0
 go_enter Try.func72, Try.ntmps72
 have hB : Below w.heap.size w w := Below.refl _ _
 have hM : Mem w [] := Mem.nil w
 go_upto_region 1 with (fail)
 generalize hg : World.alloc _ _ = w1
 obtain ⟨hB1, hM1, hb⟩ := Mem.new3 hg hB hM
 clear hB hM hg hb
 generalize h3 : w.heap.size = p3 at hM1 ⊢
 have q1 := hM1.cell 2 1 rfl rfl
 have q2 := hM1.cell 2 2 rfl rfl
 have u0 := hM1.cell 1 0 rfl rfl
 have u1 := hM1.cell 1 1 rfl rfl
 go_wp2_with fail
 refine (HP.out w1).mono ?_
 rintro e w2 ⟨rfl, hb⟩
 replace hB1 := below_step hB1 hb
 replace hM1 := hM1.below hb
 clear hb u0 u1 q1 q2 HP
 go_wp2_with (first | (rw [run_complex_mul _ 104 _ _ _ _ _ _ HM.out]; go_simp) | (rw [run_complex_sum _ .add (.inl rfl) 104 .f64 _ _ _ _ _ _ HA.out]; go_simp) | fail)
 refine (HB.out w2).mono ?_
 rintro e w3 ⟨rfl, hb⟩
 replace hB1 := below_step hB1 hb
 replace hM1 := hM1.below hb
 clear hb HB HM HA
 have T3 := hM1.get 2 rfl
 have T4 := hM1.get 1 rfl
 have T6 := hM1.get 0 rfl
 have q1 := hM1.cell 2 1 rfl rfl
 have u0 := (blk_cell T4 0).trans rfl
 have u1 := (blk_cell T4 1).trans rfl
 have z0 := blk_frozen T4 0
 have z1 := blk_frozen T4 1
 clear hM1
 go_upto_region 4 with (fail)
 have T4' := blk_set (blk_set T4 0 (.int .i64 z)) 1 (.int .i64 y)
 have T3' := blk_far (blk_far T3 (p := ⟨p3 + 1, 0, none⟩) (by show p3 ≠ p3 + 1; omega) (.int .i64 z)) (p := ⟨p3 + 1, 1, none⟩) (by show p3 ≠ p3 + 1; omega) (.int .i64 y)
 have T6' := blk_far (blk_far T6 (p := ⟨p3 + 1, 0, none⟩) (by show p3 + 2 ≠ p3 + 1; omega) (.int .i64 z)) (p := ⟨p3 + 1, 1, none⟩) (by show p3 + 2 ≠ p3 + 1; omega) (.int .i64 y)
 replace hB1 := below_set (j := 1) (v := .int .i64 y) (below_set (j := 0) (v := .int .i64 z) hB1 (g := p3 + 1) (by omega)) (g := p3 + 1) (by omega)
 generalize (w3.setCell ⟨p3 + 1, 0, none⟩ (.int .i64 z)).setCell ⟨p3 + 1, 1, none⟩ (.int .i64 y) = w4 at T4' T3' T6' hB1 ⊢
 clear T3 T4 T6 q1 u0 u1 z0 z1
 have q1 := (blk_cell T3' 1).trans rfl
 have u0 := (blk_cell T4' 0).trans rfl
 have z0 := blk_frozen T4' 0
 by_cases hzc : c1 < z
 ·have hmz : m = c1 := by rw [hm]; unfold mn; rw [if_pos hzc]
  subst hmz
  clear hm
  go_upto_region 5 with (fail)
  have T4 := blk_set T4' 0 (.int .i64 m)
  have T6 := blk_far T6' (p := ⟨p3 + 1, 0, none⟩) (by show p3 + 2 ≠ p3 + 1; omega) (.int .i64 m)
  replace hB1 := below_set (j := 0) (v := .int .i64 m) hB1 (g := p3 + 1) (by omega)
  generalize w4.setCell ⟨p3 + 1, 0, none⟩ (.int .i64 m) = w5 at T4 T6 hB1 ⊢
  clear T3' T4' T6' q1 u0 z0
  have u0 := (blk_cell T4 0).trans rfl
  have u1 := (blk_cell T4 1).trans rfl
  have k0 := (blk_cell T6 0).trans rfl
  have k1 := (blk_cell T6 1).trans rfl
  have z0 := blk_frozen T6 0
  have z1 := blk_frozen T6 1
  go_wp2
  refine bodyPost_ret (results_cell_row rfl _ _ (p3 + 2) 28 #[.int .i64 m, .int .i64 y] (0, 0) _ rfl (blk_set (blk_set T6 0 _) 1 _) Try.underlying28 rfl (by kernel_rfl)) rfl ?_
  exact ⟨rfl, below_set (below_set hB1 (by omega)) (by omega)⟩
 ·have hmz : m = z := by rw [hm]; unfold mn; rw [if_neg hzc]
  subst hmz
  clear hm
  have hzc' : m ≤ c1 := by omega
  clear hzc
  go_upto_region 5 with (fail)
  have T4 := blk_set T4' 0 (.int .i64 m)
  have T6 := blk_far T6' (p := ⟨p3 + 1, 0, none⟩) (by show p3 + 2 ≠ p3 + 1; omega) (.int .i64 m)
  replace hB1 := below_set (j := 0) (v := .int .i64 m) hB1 (g := p3 + 1) (by omega)
  generalize w4.setCell ⟨p3 + 1, 0, none⟩ (.int .i64 m) = w5 at T4 T6 hB1 ⊢
  clear T3' T4' T6' q1 u0 z0
  have u0 := (blk_cell T4 0).trans rfl
  have u1 := (blk_cell T4 1).trans rfl
  have k0 := (blk_cell T6 0).trans rfl
  have k1 := (blk_cell T6 1).trans rfl
  have z0 := blk_frozen T6 0
  have z1 := blk_frozen T6 1
  go_wp2
  refine bodyPost_ret (results_cell_row rfl _ _ (p3 + 2) 28 #[.int .i64 m, .int .i64 y] (0, 0) _ rfl (blk_set (blk_set T6 0 _) 1 _) Try.underlying28 rfl (by kernel_rfl)) rfl ?_
  exact ⟨rfl, below_set (below_set hB1 (by omega)) (by omega)⟩
/-- Whether a bucket may be one of a config, and a tick may be. -/
def Fits (c0 c1 c2 c3 t a now : Int) : Prop := 1 ≤ c0 ∧ c0 ≤ 16 ∧ 1 ≤ c1 ∧ c1 ≤ 64 ∧ 1 ≤ c2 ∧ c2 ≤ 16 ∧ 1 ≤ c3 ∧ c3 ≤ 1000 ∧ 0 ≤ t ∧ t ≤ c1 ∧ 0 ≤ a ∧ a ≤ 1099511627776 ∧ 0 ≤ now ∧ now ≤ 1099511627776
instance (c0 c1 c2 c3 t a now : Int) : Decidable (Fits c0 c1 c2 c3 t a now) := by unfold Fits; infer_instance
theorem within_f (n l h : Int) : pace_within.f n l h = some (decide (l ≤ n ∧ n ≤ h)) := by
 unfold pace_within.f
 by_cases c : n ≥ l
 ·rw [if_pos c]
  congr 1
  by_cases d : n ≤ h
  ·rw [decide_eq_true d, decide_eq_true ⟨c, d⟩]
  ·rw [decide_eq_false d, decide_eq_false (fun q => d q.2)]
 ·rw [if_neg c, decide_eq_false (fun q => c q.1)]
theorem fits_f (c0 c1 c2 c3 t a now : Int) : pace_fits.f c0 c1 c2 c3 t a now = some (decide (Fits c0 c1 c2 c3 t a now)) := by
 unfold pace_fits.f pace_May.f
 simp only [within_f, Option.bind_some]
 by_cases h : Fits c0 c1 c2 c3 t a now
 ·rw [decide_eq_true h]
  unfold Fits at h
  obtain ⟨h1, h2, h3, h4, h5, h6, h7, h8, h9, h10, h11, h12, h13, h14⟩ := h
  simp only [h1, h2, h3, h4, h5, h6, h7, h8, h9, h10, h11, h12, h13, h14, and_self, decide_true, if_true, Option.bind_some]
 ·rw [decide_eq_false h]
  unfold Fits at h
  by_cases k1 : 1 ≤ c0 ∧ c0 ≤ 16
  rotate_left
  ·simp [k1]
  by_cases k2 : 1 ≤ c1 ∧ c1 ≤ 64
  rotate_left
  ·simp [k1, k2]
  by_cases k3 : 1 ≤ c2 ∧ c2 ≤ 16
  rotate_left
  ·simp [k1, k2, k3]
  by_cases k4 : 1 ≤ c3 ∧ c3 ≤ 1000
  rotate_left
  ·simp [k1, k2, k3, k4]
  by_cases k5 : 0 ≤ t ∧ t ≤ c1
  rotate_left
  ·simp [k1, k2, k3, k4, k5]
  by_cases k6 : 0 ≤ a ∧ a ≤ 1099511627776
  rotate_left
  ·simp [k1, k2, k3, k4, k5, k6]
  have k7 : ¬ (0 ≤ now ∧ now ≤ 1099511627776) := by omega
  simp [k1, k2, k3, k4, k5, k6, k7]
/-- The ticks that a bucket is behind. -/
def tk (a now : Int) : Int := if a < now then now - a else 0
/-- A bucket's tokens at a tick. -/
def lvl (c1 c2 t a now : Int) : Int := mn (t + tk a now * c2) c1
/-- What is taken. -/
def TK (c0 c1 c2 c3 t a now : Int) : Int × Int × Bool :=
 if Fits c0 c1 c2 c3 t a now then if lvl c1 c2 t a now = 0 then (0, a + tk a now, false) else (lvl c1 c2 t a now - 1, a + tk a now, true) else (t, a, false)
theorem later_any (c0 c1 c2 c3 t a now : Int) (h : Fits c0 c1 c2 c3 t a now) (w : World) :
  Calls Try.prog 72 #[.agg #[.int .i64 c0, .int .i64 c1, .int .i64 c2, .int .i64 c3], .agg #[.int .i64 t, .int .i64 a], .int .i64 now] w fun e w' => e = .returned (.agg #[.int .i64 (lvl c1 c2 t a now), .int .i64 (a + tk a now)]) ∧ Below w.heap.size w w' := by
 unfold Fits at h
 obtain ⟨c, rfl⟩ : ∃ n : Nat, c2 = n := ⟨c2.toNat, by omega⟩
 obtain ⟨t, rfl⟩ : ∃ n : Nat, t = n := ⟨t.toNat, by omega⟩
 obtain ⟨a, rfl⟩ : ∃ n : Nat, a = n := ⟨a.toNat, by omega⟩
 obtain ⟨n, rfl⟩ : ∃ m : Nat, now = m := ⟨now.toNat, by omega⟩
 unfold lvl tk
 by_cases q : a < n
 ·rw [if_pos (by omega)]
  have e1 : ((n : Int) - (a : Int)) = ((n - a : Nat) : Int) := by omega
  have e2 : ((t : Int) + ((n : Int) - (a : Int)) * (c : Int)) = ((t + (n - a) * c : Nat) : Int) := by rw [e1]; simp
  have e3 : ((a : Int) + ((n : Int) - (a : Int))) = ((a + (n - a) : Nat) : Int) := by omega
  rw [e2, e3]
  exact later_late c0 c1 c3 c t a n (n - a) (by omega) (by omega) (by omega) (by omega) q rfl _ rfl w
 ·rw [if_neg (by omega)]
  have e2 : ((t : Int) + 0 * (c : Int)) = ((t + 0 * c : Nat) : Int) := by simp
  have e3 : ((a : Int) + 0) = ((a + 0 : Nat) : Int) := by omega
  rw [e2, e3]
  exact later_early c0 c1 c3 c t a n 0 (by omega) (by omega) (by omega) (by omega) (by omega) rfl _ rfl w
theorem lvl_le {c0 c1 c2 c3 t a now : Int} (h : Fits c0 c1 c2 c3 t a now) : 0 ≤ lvl c1 c2 t a now ∧ lvl c1 c2 t a now ≤ c1 ∧ 0 ≤ a + tk a now ∧ a + tk a now ≤ 1099511627776 := by
 unfold Fits at h
 have ht : 0 ≤ tk a now := by unfold tk; split <;> omega
 have hm : 0 ≤ tk a now * c2 := Int.mul_nonneg ht (by omega)
 refine ⟨?_, ?_, by omega, by unfold tk; split <;> omega⟩
 ·unfold lvl mn
  split <;> omega
 ·unfold lvl mn
  split <;> omega
set_option maxHeartbeats 4000000 in
theorem take_calls (c0 c1 c2 c3 t a now : Int) (w : World) :
  Calls Try.prog 51 #[.agg #[.int .i64 c0, .int .i64 c1, .int .i64 c2, .int .i64 c3], .agg #[.int .i64 t, .int .i64 a], .int .i64 now] w fun e w' => e = .returned (.tuple #[.agg #[.int .i64 (TK c0 c1 c2 c3 t a now).1, .int .i64 (TK c0 c1 c2 c3 t a now).2.1], .bool (TK c0 c1 c2 c3 t a now).2.2]) ∧ Below w.heap.size w w' := by
 have HF := Aside0.mk (fun w => pace_fits.calls c0 c1 c2 c3 t a now _ w (fits_f c0 c1 c2 c3 t a now))
 obtain ⟨K, hK⟩ : ∃ K, K = TK c0 c1 c2 c3 t a now := ⟨_, rfl⟩
 rw [← hK]
 have HK := Aside0.mk hK
 clear hK
 obtain ⟨K1, K2, K3⟩ := K
 dsimp only at ⊢
 go_enter Try.func51, Try.ntmps51
 have hB : Below w.heap.size w w := Below.refl _ _
 have hM : Mem w [] := Mem.nil w
 go_upto_region 1 with (fail)
 generalize hg : World.alloc _ _ = w1
 obtain ⟨hB1, hM1, hb⟩ := Mem.new3 hg hB hM
 clear hB hM hg hb
 generalize h3 : w.heap.size = p3 at hM1 ⊢
 have q0 := hM1.cell 2 0 rfl rfl
 have q1 := hM1.cell 2 1 rfl rfl
 have q2 := hM1.cell 2 2 rfl rfl
 have q3 := hM1.cell 2 3 rfl rfl
 have u0 := hM1.cell 1 0 rfl rfl
 have u1 := hM1.cell 1 1 rfl rfl
 go_wp2_with fail
 refine (HF.out w1).mono ?_
 rintro e w2 ⟨rfl, hb⟩
 replace hB1 := below_step hB1 hb
 replace hM1 := hM1.below hb
 clear hb HF q0 q1 q2 q3 u0 u1
 have T3 := hM1.get 2 rfl
 have T4 := hM1.get 1 rfl
 have T6 := hM1.get 0 rfl
 clear hM1
 by_cases hf : Fits c0 c1 c2 c3 t a now
 ·rw [decide_eq_true hf]
  have HL := Aside0.mk (fun w => later_any c0 c1 c2 c3 t a now hf w)
  obtain ⟨l0, l1, l2, l3⟩ := lvl_le hf
  have hk := HK.out
  unfold TK at hk
  rw [if_pos hf] at hk
  have l5 : lvl c1 c2 t a now ≤ 64 := by unfold Fits at hf; omega
  generalize lvl c1 c2 t a now = z at HL l0 l1 hk l5
  generalize a + tk a now = y at HL l2 l3 hk
  have q0 := (blk_cell T3 0).trans rfl
  have q1 := (blk_cell T3 1).trans rfl
  have q2 := (blk_cell T3 2).trans rfl
  have q3 := (blk_cell T3 3).trans rfl
  have u0 := (blk_cell T4 0).trans rfl
  have u1 := (blk_cell T4 1).trans rfl
  have HK2 := Aside0.mk hk
  clear hk HK l1 hf
  go_wp2_with fail
  refine (HL.out w2).mono ?_
  rintro e w3 ⟨rfl, hb⟩
  replace hB1 := below_step hB1 hb
  replace T4 := blk_below T4 hb
  replace T6 := blk_below T6 hb
  clear hb HL q0 q1 q2 q3 u0 u1 T3
  have u0 := (blk_cell T4 0).trans rfl
  have u1 := (blk_cell T4 1).trans rfl
  have z0 := blk_frozen T4 0
  have z1 := blk_frozen T4 1
  go_upto_region 4 with (fail)
  have T4' := blk_set (blk_set T4 0 (.int .i64 z)) 1 (.int .i64 y)
  have T6' := blk_far (blk_far T6 (p := ⟨p3 + 1, 0, none⟩) (by show p3 + 2 ≠ p3 + 1; omega) (.int .i64 z)) (p := ⟨p3 + 1, 1, none⟩) (by show p3 + 2 ≠ p3 + 1; omega) (.int .i64 y)
  replace hB1 := below_set (j := 1) (v := .int .i64 y) (below_set (j := 0) (v := .int .i64 z) hB1 (g := p3 + 1) (by omega)) (g := p3 + 1) (by omega)
  generalize (w3.setCell ⟨p3 + 1, 0, none⟩ (.int .i64 z)).setCell ⟨p3 + 1, 1, none⟩ (.int .i64 y) = w4 at T4' T6' hB1 ⊢
  clear T4 T6 u0 u1 z0 z1
  have u0 := (blk_cell T4' 0).trans rfl
  have u1 := (blk_cell T4' 1).trans rfl
  by_cases hz : z = 0
  ·have hk := HK2.out
   rw [if_pos hz] at hk
   obtain ⟨rfl, rfl, rfl⟩ : K1 = 0 ∧ K2 = y ∧ K3 = false := by injection hk with h1 h2; injection h2 with h2 h3; exact ⟨h1, h2, h3⟩
   subst hz
   have k0 := (blk_cell T6' 0).trans rfl
   have k1 := (blk_cell T6' 1).trans rfl
   have z0 := blk_frozen T6' 0
   have z1 := blk_frozen T6' 1
   go_wp2
   refine bodyPost_ret (results_ct rfl _ _ (p3 + 1 + 1) 28 #[.int .i64 0, .int .i64 K2] (0, 0) _ rfl (blk_set (blk_set T6' 0 _) 1 _) Try.underlying28 rfl (by kernel_rfl)) rfl ?_
   subst h3
   exact ⟨rfl, below_set (below_set hB1 (by omega)) (by omega)⟩
  ·have hk := HK2.out
   rw [if_neg hz] at hk
   obtain ⟨rfl, rfl, rfl⟩ : K1 = z - 1 ∧ K2 = y ∧ K3 = true := by injection hk with h1 h2; injection h2 with h2 h3; exact ⟨h1, h2, h3⟩
   obtain ⟨zn, rfl⟩ : ∃ n : Nat, z = n := ⟨z.toNat, by omega⟩
   obtain ⟨yn, rfl⟩ : ∃ n : Nat, K2 = n := ⟨K2.toNat, by omega⟩
   have HP := Aside0.mk (fun w => point_calls (zn : Int) (yn : Int) (fl zn) (fl yn) rfl rfl w)
   have HS := Aside0.mk (sub_pl zn yn (by omega) (by omega) (by omega))
   have HBu := Aside0.mk (fun w => bucket_calls (zn - 1) yn (by omega) (by omega) w)
   rw [show ((zn - 1 : Nat) : Int) = (zn : Int) - 1 by omega] at HBu
   generalize fl zn = f1 at HP HS
   generalize fl (zn - 1) = f3 at HBu HS
   generalize fl yn = f2 at HP HS HBu
   clear HK2 hk l0 l2 l3 l5
   generalize hzi : (zn : Int) - 1 = zi at HBu ⊢
   have hz' : ¬ (zn : Int) = 0 := hz
   go_wp2_with fail
   refine (HP.out w4).mono ?_
   rintro e w5 ⟨rfl, hb⟩
   replace hB1 := below_step hB1 hb
   replace T6' := blk_below T6' hb
   clear hb HP u0 u1 T4'
   go_wp2_with (first | (rw [run_complex_sum _ .sub (.inr rfl) 104 .f64 _ _ _ _ _ _ HS.out]; go_simp) | fail)
   refine (HBu.out w5).mono ?_
   rintro e w6 ⟨rfl, hb⟩
   replace hB1 := below_step hB1 hb
   replace T6' := blk_below T6' hb
   clear hb HBu HS
   have k0 := (blk_cell T6' 0).trans rfl
   have k1 := (blk_cell T6' 1).trans rfl
   have z0 := blk_frozen T6' 0
   have z1 := blk_frozen T6' 1
   go_wp2
   refine bodyPost_ret (results_ct rfl _ _ (p3 + 1 + 1) 28 #[.int .i64 zi, .int .i64 yn] (0, 0) _ rfl (blk_set (blk_set T6' 0 _) 1 _) Try.underlying28 rfl (by kernel_rfl)) rfl ?_
   subst hzi
   subst h3
   exact ⟨rfl, below_set (below_set hB1 (by omega)) (by omega)⟩
 ·rw [decide_eq_false hf]
  have hk := HK.out
  unfold TK at hk
  rw [if_neg hf] at hk
  obtain ⟨rfl, rfl, rfl⟩ : K1 = t ∧ K2 = a ∧ K3 = false := by injection hk with h1 h2; injection h2 with h2 h3; exact ⟨h1, h2, h3⟩
  clear hk HK hf
  have u0 := (blk_cell T4 0).trans rfl
  have u1 := (blk_cell T4 1).trans rfl
  have k0 := (blk_cell T6 0).trans rfl
  have k1 := (blk_cell T6 1).trans rfl
  have z0 := blk_frozen T6 0
  have z1 := blk_frozen T6 1
  go_wp2
  refine bodyPost_ret (results_ct rfl _ _ (p3 + 1 + 1) 28 #[.int .i64 K1, .int .i64 K2] (0, 0) _ rfl (blk_set (blk_set T6 0 _) 1 _) Try.underlying28 rfl (by kernel_rfl)) rfl ?_
  subst h3
  exact ⟨rfl, below_set (below_set hB1 (by omega)) (by omega)⟩
end Go.Proofs.Ytmigglldahkngaa.XPace
end
