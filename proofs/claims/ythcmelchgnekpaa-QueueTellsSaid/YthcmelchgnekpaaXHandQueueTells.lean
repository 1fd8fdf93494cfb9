-- Several texts in one (wip/tools/mergex.py).
import Derived.Test.YthcmelchgnekpaaPAx4
import Derived.Test.YthcmelchgnekpaaPAx11
import Derived.Test.YthcmelchgnekpaaPAx9
import Derived.Test.YthcmelchgnekpaaPAx5
import Derived.Test.YthcmelchgnekpaaPAx6
import Derived.Test.YthcmelchgnekpaaXGen
import Derived.Test.YthcmelchgnekpaaPAx10
import Derived.Test.YthcmelchgnekpaaXLive17w

/- Queues in plain lists: what the printed functions of queue, and of its reference, answer. -/
namespace Go.Proofs.Ythcmelchgnekpaa.XV17
open Go.RowKit Go.Proofs.Ythcmelchgnekpaa.PA Go.Proofs.YthcmelchgnekpaaW.PrintWords Go.Proofs.YthcmelchgnekpaaW.PrintLast Go.Proofs.Ythcmelchgnekpaa.XGen
open Go.Proofs.Ythcmelchgnekpaa.XPlace (idx is)
open Go.Proofs.Ythcmelchgnekpaa.XIdent (isB okAt)
open Go.Proofs.Ythcmelchgnekpaa.XMay (mayB numsB)
open Go.Proofs.Ythcmelchgnekpaa.XOdd (odd)
set_option linter.unusedVariables false
set_option linter.unusedSimpArgs false
abbrev Ch := S33
theorem is_iff {n : ByteArray} {x : Ch} : is n x = true ↔ x.f0 = n := by simp [is, toList_inj]
theorem idx_no (p : Ch → Bool) : ∀ (l : List Ch) (i : Int), 0 ≤ i → (idx p l i = -1 ∧ ∀ x ∈ l, p x = false) ∨ ∃ (k : Nat) (h : k < l.length), idx p l i = i + k ∧ (∀ (j : Nat) (hj : j < l.length), j < k → p l[j] = false) ∧ p l[k] = true
  | [], i, _ => .inl ⟨rfl, fun x hx => by cases hx⟩
  | x :: t, i, h => by
    rw [idx]
    by_cases c : p x = true
    · rw [if_pos c]
      exact .inr ⟨0, by simp, by simp, fun j _ hj => absurd hj (Nat.not_lt_zero j), c⟩
    · rw [if_neg c]
      rcases idx_no p t (i + 1) (by omega) with ⟨h1, h2⟩ | ⟨k, h1, h2, h3, h5⟩
      · refine .inl ⟨h1, fun y hy => ?_⟩
        rcases List.mem_cons.1 hy with rfl | hy
        · exact Bool.eq_false_iff.mpr c
        · exact h2 y hy
      · refine .inr ⟨k + 1, by simp; omega, by rw [h2]; simp; omega, fun j hj hjk => ?_, by simpa using h5⟩
        cases j with
        | zero => simpa using c
        | succ j => simp only [List.getElem_cons_succ]; exact h3 j _ (by omega)
theorem idx_first (p : Ch → Bool) (l : List Ch) (k : Nat) (h : k < l.length) (h1 : ∀ (j : Nat) (hj : j < l.length), j < k → p l[j] = false) (h2 : p l[k] = true) : idx p l 0 = (k : Int) := by
  rcases idx_no p l 0 (by omega) with ⟨_, h4⟩ | ⟨m, hm, h3, h4, h5⟩
  · rw [h4 _ (List.getElem_mem h)] at h2; cases h2
  · rw [h3]
    rcases Nat.lt_trichotomy m k with hlt | rfl | hlt
    · rw [h1 m hm hlt] at h5; cases h5
    · simp
    · rw [h4 k h hlt] at h2; cases h2
theorem idx_none (p : Ch → Bool) (l : List Ch) (h : ∀ x ∈ l, p x = false) : idx p l 0 = -1 := by
  rcases idx_no p l 0 (by omega) with ⟨h3, _⟩ | ⟨m, hm, h3, h4, h5⟩
  · exact h3
  · rw [h _ (List.getElem_mem hm)] at h5; cases h5
theorem rd_at (l : List Ch) (j : Nat) (h : j < l.length) : rd_T33 l (j : Int) = l[j] := by
  unfold rd_T33
  rw [Int.toNat_natCast, getD_lt l _ j h]
/-! ## places -/
theorem place_f (l : List Ch) (n : ByteArray) : api_Change_string.f l n = some (idx (is n) l 0, decide (0 ≤ idx (is n) l 0)) := rfl
theorem refPlaceL (l : List Ch) (n : ByteArray) (b : Bool) (hl : l.length ≤ 1000000) : ∀ (d k j : Nat), j + d = l.length → d < k → rollcallref17_place.l0 k n (j : Int) l b = some (idx (is n) (l.drop j) j) := by
  intro d
  induction d with
  | zero =>
    intro k j hj hk
    obtain ⟨k, rfl⟩ : ∃ m, k = m + 1 := ⟨k - 1, by omega⟩
    rw [rollcallref17_place.l0, if_neg (by omega), List.drop_eq_nil_of_le (by omega)]
    rfl
  | succ d ih =>
    intro k j hj hk
    obtain ⟨k, rfl⟩ : ∃ m, k = m + 1 := ⟨k - 1, by omega⟩
    rw [rollcallref17_place.l0, if_pos (by omega), if_pos (by omega), rd_at l j (by omega), drop_get l j (by omega), wrap_succ j (by omega), ih k (j + 1) (by omega) (by omega), idx]
    by_cases c : l[j].f0.toList = n.toList
    · rw [if_pos c, if_pos (by simp [is, c])]
    · rw [if_neg c, if_neg (by simp [is, c])]
      rfl
theorem refPlace_f (k : Nat) (l : List Ch) (n : ByteArray) (b : Bool) (hl : l.length ≤ 1000000) (hk : l.length < k) : rollcallref17_place.f k l b n = some (idx (is n) l 0) := refPlaceL l n b hl l.length k 0 (by omega) hk
/-! ## what may be -/
def z4 (x : Ch) : Bool := x.f2.f0 == 0 && (x.f2.f1 == 0 && (x.f2.f2 == 0 && (x.f2.f3.toList == ([] : List UInt8))))
def oneB (x : Ch) : Bool := isB x.f0 && if x.f1 = true then mayB x.f2.f0 x.f2.f1 x.f2.f2 x.f2.f3 else z4 x
theorem one_f (x : Ch) (h : x.f0.size ≤ 9223372036854775807) : queue_One.f x.f0 x.f1 x.f2.f0 x.f2.f1 x.f2.f2 x.f2.f3 = some (oneB x) := by
  unfold queue_One.f oneB
  have e : ident_Is.f x.f0 = some (isB x.f0) := by show XIdent.ident_Is.f x.f0 = _; unfold XIdent.ident_Is.f; rw [if_pos h]
  have e2 : value_May.f x.f2.f0 x.f2.f1 x.f2.f2 x.f2.f3 = some (mayB x.f2.f0 x.f2.f1 x.f2.f2 x.f2.f3) := rfl
  rw [e, e2]
  simp only [Option.bind_some]
  cases x.f1 <;> cases isB x.f0 <;> rfl
theorem refMayL (a0 a1 a2 : Int) (s : ByteArray) (hs : s.size ≤ 1000) : ∀ (d k j : Nat), j + d = s.size → d < k → rollcallref04_May.l0 k (j : Int) a0 a1 a2 s = some (!(((bytesOf s).drop j).any odd)) := by
  intro d
  induction d with
  | zero =>
    intro k j hj hk
    obtain ⟨k, rfl⟩ : ∃ m, k = m + 1 := ⟨k - 1, by omega⟩
    rw [rollcallref04_May.l0, if_neg (by omega), List.drop_eq_nil_of_le (by rw [bytesOf_length]; omega)]
    rfl
  | succ d ih =>
    intro k j hj hk
    obtain ⟨k, rfl⟩ : ∃ m, k = m + 1 := ⟨k - 1, by omega⟩
    have hb : (bytesOf s).drop j = bt s (j : Int) :: (bytesOf s).drop (j + 1) := by
      rw [List.drop_eq_getElem_cons (by rw [bytesOf_length]; omega)]
      congr 1
      unfold bytesOf bt
      rw [List.getElem_map, dif_pos (by rw [Int.toNat_natCast]; omega)]
      rfl
    rw [rollcallref04_May.l0, if_pos (by omega), if_pos (by omega), hb, List.any_cons]
    unfold odd
    by_cases c1 : bt s (j : Int) < 32
    · rw [if_pos c1]; simp [c1]
    · rw [if_neg c1]
      by_cases c2 : bt s (j : Int) > 126
      · rw [if_pos c2]; simp [c2]
      · rw [if_neg c2, wrap_succ j (by omega), ih k (j + 1) (by omega) (by omega)]
        have e : (decide (bt s (j : Int) < 32) || decide (126 < bt s (j : Int))) = false := by simp; omega
        rw [e]
        rfl
theorem may_off {a0 a1 a2 : Int} {a3 : ByteArray} (h : ¬ (1 ≤ a0 ∧ a0 ≤ 4 ∧ -128 ≤ a1 ∧ a1 ≤ 127 ∧ 0 ≤ a2 ∧ a2 ≤ 1099511627776 ∧ a3.size ≤ 32)) : mayB a0 a1 a2 a3 = false := by
  unfold mayB
  rw [if_neg (show ¬ numsB a0 a1 a2 a3 from h)]
theorem may_on {a0 a1 a2 : Int} {a3 : ByteArray} (h : 1 ≤ a0 ∧ a0 ≤ 4 ∧ -128 ≤ a1 ∧ a1 ≤ 127 ∧ 0 ≤ a2 ∧ a2 ≤ 1099511627776 ∧ a3.size ≤ 32) : mayB a0 a1 a2 a3 = !((bytesOf a3).any odd) := by
  unfold mayB
  rw [if_pos (show numsB a0 a1 a2 a3 from h)]
theorem refMay_f (k : Nat) (a0 a1 a2 : Int) (a3 : ByteArray) (hk : 40 ≤ k) : rollcallref04_May.f k a0 a1 a2 a3 = some (mayB a0 a1 a2 a3) := by
  obtain ⟨k, rfl⟩ : ∃ m, k = m + 1 := ⟨k - 1, by omega⟩
  unfold rollcallref04_May.f
  have ht : rollcallref04_May.j0 (k + 1) true a0 a1 a2 a3 = some false := by rw [rollcallref04_May.j0, if_pos rfl]
  by_cases c : 1 ≤ a0 ∧ a0 ≤ 4 ∧ -128 ≤ a1 ∧ a1 ≤ 127 ∧ 0 ≤ a2 ∧ a2 ≤ 1099511627776 ∧ a3.size ≤ 32
  · rw [may_on c, if_neg (by omega), if_neg (by omega), if_neg (by omega), if_neg (by omega), if_neg (by omega), if_neg (by omega), rollcallref04_May.j0, if_neg (by simp; omega)]
    exact refMayL a0 a1 a2 a3 (by omega) a3.size k 0 (by omega) (by omega)
  · rw [may_off c, ht]
    by_cases h1 : a0 < 1
    · rw [if_pos h1]
    rw [if_neg h1]
    by_cases h2 : a0 > 4
    · rw [if_pos h2]
    rw [if_neg h2]
    by_cases h3 : a1 < -128
    · rw [if_pos h3]
    rw [if_neg h3]
    by_cases h4 : a1 > 127
    · rw [if_pos h4]
    rw [if_neg h4]
    by_cases h5 : a2 < 0
    · rw [if_pos h5]
    rw [if_neg h5]
    by_cases h6 : a2 > 1099511627776
    · rw [if_pos h6]
    rw [if_neg h6]
    have e : decide ((a3.size : Int) > 32) = true := by simp; omega
    rw [e, ht]
def okR (s : ByteArray) (j : Nat) : Prop := (97 ≤ bt s j ∧ bt s j ≤ 122) ∨ (48 ≤ bt s j ∧ bt s j ≤ 57) ∨ bt s j = 45
instance (s : ByteArray) (j : Nat) : Decidable (okR s j) := by unfold okR; infer_instance
theorem refIsL (s : ByteArray) (hs : s.size ≤ 1000) : ∀ (d k j : Nat), j + d = s.size → d < k → rollcallref03_Is.l0 k s (j : Int) = some ((List.range' j d).all fun i => decide (okR s i)) := by
  intro d
  induction d with
  | zero =>
    intro k j hj hk
    obtain ⟨k, rfl⟩ : ∃ m, k = m + 1 := ⟨k - 1, by omega⟩
    rw [rollcallref03_Is.l0, if_neg (by omega)]
    rfl
  | succ d ih =>
    intro k j hj hk
    obtain ⟨k, rfl⟩ : ∃ m, k = m + 1 := ⟨k - 1, by omega⟩
    rw [rollcallref03_Is.l0, if_pos (by omega), if_pos (by omega), wrap_succ j (by omega), ih k (j + 1) (by omega) (by omega), List.range'_succ, List.all_cons]
    by_cases c : okR s j
    · have e : decide (okR s j) = true := by simp [c]
      rw [e, Bool.true_and]
      unfold okR at c
      repeat' split
      all_goals first | rfl | (exfalso; omega)
    · have e : decide (okR s j) = false := by simp [c]
      rw [e, Bool.false_and]
      unfold okR at c
      repeat' split
      all_goals first | rfl | (exfalso; omega)
theorem refIs_f (k : Nat) (s : ByteArray) (hk : 30 ≤ k) : rollcallref03_Is.f k s = some (isB s) := by
  obtain ⟨k, rfl⟩ : ∃ m, k = m + 1 := ⟨k - 1, by omega⟩
  unfold rollcallref03_Is.f isB
  have ht : rollcallref03_Is.j0 (k + 1) s true = some false := by rw [rollcallref03_Is.j0, if_pos rfl]
  by_cases h1 : (s.size : Int) < 1
  · rw [if_pos h1, ht]
    have : decide (0 < s.size ∧ s.size ≤ 16) = false := by simp; omega
    rw [this, Bool.false_and]
  rw [if_neg h1]
  by_cases h2 : (s.size : Int) > 16
  · rw [if_pos h2, ht]
    have : decide (0 < s.size ∧ s.size ≤ 16) = false := by simp; omega
    rw [this, Bool.false_and]
  rw [if_neg h2, if_pos (by omega)]
  have e1 : decide (0 < s.size ∧ s.size ≤ 16) = true := by simp; omega
  rw [e1, Bool.true_and]
  have e0 : ∀ b : Bool, b = decide (okAt s 0) → (List.range s.size).all (fun j => decide (okAt s j)) = (b && (List.range' 0 s.size).all fun i => decide (okR s i)) := by
    intro b hb
    rw [hb]
    obtain ⟨m, hm⟩ : ∃ m, s.size = m + 1 := ⟨s.size - 1, by omega⟩
    rw [hm, List.range_eq_range', List.range'_succ, List.all_cons, List.all_cons]
    have e2 : (List.range' (0 + 1) m).all (fun j => decide (okAt s j)) = (List.range' (0 + 1) m).all (fun i => decide (okR s i)) := by
      rw [Bool.eq_iff_iff, List.all_eq_true, List.all_eq_true]
      constructor
      · intro h i hi
        have := h i hi
        have hi' := (List.mem_range'_1.1 hi).1
        simp only [decide_eq_true_eq] at this ⊢
        unfold okAt at this
        unfold okR
        omega
      · intro h i hi
        have := h i hi
        have hi' := (List.mem_range'_1.1 hi).1
        simp only [decide_eq_true_eq] at this ⊢
        unfold okR at this
        unfold okAt
        omega
    rw [e2]
    by_cases c : okAt s 0
    · have : okR s 0 := by unfold okAt at c; unfold okR; omega
      simp [c, this]
    · simp [c]
  by_cases h3 : bt s 0 < 97
  · rw [if_pos h3, ht, e0 false (by unfold okAt; simp; omega)]
    rfl
  rw [if_neg h3]
  by_cases h4 : bt s 0 > 122
  · have e : decide (bt s 0 > 122) = true := by simp; omega
    rw [e, ht, e0 false (by unfold okAt; simp; omega)]
    rfl
  · have e : decide (bt s 0 > 122) = false := by simp; omega
    rw [e, rollcallref03_Is.j0, if_neg (by simp), e0 true (by unfold okAt; simp; omega), Bool.true_and]
    exact refIsL s (by omega) s.size k 0 (by omega) (by omega)
theorem refOne_f (k : Nat) (x : Ch) (hk : 40 ≤ k) : rollcallref17_One.f k x.f0 x.f1 x.f2.f0 x.f2.f1 x.f2.f2 x.f2.f3 = some (oneB x) := by
  unfold rollcallref17_One.f oneB
  rw [refIs_f k _ (by omega), refMay_f k _ _ _ _ hk]
  simp only [Option.bind_some]
  cases x.f1 <;> cases isB x.f0 <;> rfl
/-- No two of one contact. -/
def Apart (l : List Ch) : Prop := ∀ (i j : Nat) (hi : i < l.length) (hj : j < l.length), j < i → l[j].f0 ≠ l[i].f0
theorem place_own {l : List Ch} (h : Apart l) (i : Nat) (hi : i < l.length) : idx (is l[i].f0) l 0 = (i : Int) := by
  refine idx_first _ l i hi (fun j hj hji => ?_) (is_iff.2 rfl)
  exact Bool.eq_false_iff.mpr (fun e => h i j hi hj hji (is_iff.1 e))
theorem mayL (l : List Ch) (lat : Bool) (room : Int) (hl : l.length ≤ 1000000) (hs : ∀ x ∈ l, x.f0.size ≤ 9223372036854775807) (h1 : (l.length : Int) ≤ room) (h2 : lat = true → l = []) (h3 : ∀ x ∈ l, oneB x = true) (h4 : Apart l) :
    ∀ (d k j : Nat), j + d = l.length → d < k → queue_May.l0 k room l (l.length : Int) (j : Int) l lat = some true := by
  intro d
  induction d with
  | zero =>
    intro k j hj hk
    obtain ⟨k, rfl⟩ : ∃ m, k = m + 1 := ⟨k - 1, by omega⟩
    rw [queue_May.l0, if_neg (by omega), if_pos h1]
    cases lat with
    | true => rw [if_pos rfl, h2 rfl]; rfl
    | false => rw [if_neg (by simp)]
  | succ d ih =>
    intro k j hj hk
    obtain ⟨k, rfl⟩ : ∃ m, k = m + 1 := ⟨k - 1, by omega⟩
    have hm : l[j] ∈ l := List.getElem_mem _
    rw [queue_May.l0, if_pos (by omega), if_pos (by omega), if_pos (by omega), rd_at l j (by omega), place_f, place_own h4 j (by omega)]
    simp only [Option.bind_some, if_true]
    rw [one_f l[j] (hs _ hm), h3 _ hm]
    simp only [Option.bind_some, if_true]
    rw [wrap_succ j (by omega)]
    exact ih k (j + 1) (by omega) (by omega)
theorem may_f (k : Nat) (l : List Ch) (lat : Bool) (room : Int) (hl : l.length ≤ 1000000) (hs : ∀ x ∈ l, x.f0.size ≤ 9223372036854775807) (h1 : (l.length : Int) ≤ room) (h2 : lat = true → l = []) (h3 : ∀ x ∈ l, oneB x = true) (h4 : Apart l) (hk : l.length < k) : queue_May.f k l lat room = some true :=
  mayL l lat room hl hs h1 h2 h3 h4 l.length k 0 (by omega) hk
theorem refMayLL (l : List Ch) (lat : Bool) (hl : l.length ≤ 1000000) : ∀ (d k j : Nat), j + d = l.length → d + l.length + 100 < k → ∃ b, rollcallref17_May.l0 k (j : Int) l lat = some b ∧ (b = true → ∀ (i : Nat) (hi : i < l.length), j ≤ i → oneB l[i] = true ∧ idx (is l[i].f0) l 0 = (i : Int)) := by
  intro d
  induction d with
  | zero =>
    intro k j hj hk
    obtain ⟨k, rfl⟩ : ∃ m, k = m + 1 := ⟨k - 1, by omega⟩
    rw [rollcallref17_May.l0, if_neg (by omega)]
    exact ⟨_, rfl, fun _ i hi hij => by omega⟩
  | succ d ih =>
    intro k j hj hk
    obtain ⟨k, rfl⟩ : ∃ m, k = m + 1 := ⟨k - 1, by omega⟩
    rw [rollcallref17_May.l0, if_pos (by omega), if_pos (by omega), rd_at l j (by omega), refOne_f k l[j] (by omega), refPlace_f k l _ lat hl (by omega), wrap_succ j (by omega)]
    simp only [Option.bind_some]
    by_cases c : oneB l[j] = true
    · rw [if_pos c]
      by_cases c2 : idx (is l[j].f0) l 0 = (j : Int)
      · rw [if_pos c2]
        obtain ⟨b, hb, h⟩ := ih k (j + 1) (by omega) (by omega)
        refine ⟨b, hb, fun e i hi hij => ?_⟩
        rcases Nat.lt_or_ge j i with hlt | hge
        · exact h e i hi hlt
        · obtain rfl : i = j := by omega
          exact ⟨c, c2⟩
      · rw [if_neg c2]
        exact ⟨_, rfl, fun e => by cases e⟩
    · rw [if_neg c]
      exact ⟨_, rfl, fun e => by cases e⟩
theorem refMayQ_f (k : Nat) (l : List Ch) (lat : Bool) (room : Int) (hl : l.length ≤ 1000000) (hk : 2 * l.length + 110 < k) : ∃ b, rollcallref17_May.f k l lat room = some b ∧ (b = true → (l.length : Int) ≤ room ∧ (lat = true → l = []) ∧ (∀ x ∈ l, oneB x = true) ∧ Apart l) := by
  obtain ⟨k, rfl⟩ : ∃ m, k = m + 1 := ⟨k - 1, by omega⟩
  have ht : rollcallref17_May.j0 (k + 1) true l lat = some false := by rw [rollcallref17_May.j0, if_pos rfl]
  unfold rollcallref17_May.f
  by_cases h1 : (l.length : Int) > room
  · rw [if_pos h1, ht]; exact ⟨_, rfl, fun e => by cases e⟩
  rw [if_neg h1]
  have key : ∀ q : Bool, (q = false → lat = true → l = []) → ∃ b, rollcallref17_May.j0 (k + 1) q l lat = some b ∧ (b = true → (l.length : Int) ≤ room ∧ (lat = true → l = []) ∧ (∀ x ∈ l, oneB x = true) ∧ Apart l) := by
    intro q hq
    cases q with
    | true => rw [ht]; exact ⟨_, rfl, fun e => by cases e⟩
    | false =>
      rw [rollcallref17_May.j0, if_neg (by simp)]
      obtain ⟨b, hb, h⟩ := refMayLL l lat hl l.length k 0 (by omega) (by omega)
      refine ⟨b, hb, fun e => ⟨by omega, hq rfl, fun x hx => ?_, fun i j hi hj hji he => ?_⟩⟩
      · obtain ⟨i, hi, rfl⟩ := List.getElem_of_mem hx
        exact (h e i hi (Nat.zero_le _)).1
      · have h5 := (h e i hi (Nat.zero_le _)).2
        rcases idx_no (is l[i].f0) l 0 (by omega) with ⟨h6, _⟩ | ⟨m, hm, h6, h7, _⟩
        · omega
        · obtain rfl : m = i := by omega
          have := h7 j hj hji
          rw [is_iff.2 he] at this
          cases this
  cases lat with
  | true =>
    rw [if_pos rfl]
    refine key _ (fun h _ => ?_)
    simp only [decide_eq_false_iff_not] at h
    exact List.length_eq_zero_iff.1 (by omega)
  | false =>
    rw [if_neg (by simp)]
    exact key false (fun _ h => by cases h)
/-! ## pushes -/
def PU (l : List Ch) (lat : Bool) (c : Ch) (room : Int) : List Ch × Bool :=
  if lat = true then (l, lat) else if 0 ≤ idx (is c.f0) l 0 then (l.set (idx (is c.f0) l 0).toNat c, false) else if (l.length : Int) < room then (l ++ [c], false) else ([], true)
theorem idx_lt (p : Ch → Bool) (l : List Ch) : idx p l 0 < (l.length : Int) := by
  rcases idx_no p l 0 (by omega) with ⟨h, _⟩ | ⟨m, hm, h, _⟩
  · rw [h]; omega
  · rw [h]; omega
theorem push_f (l : List Ch) (lat : Bool) (c : Ch) (room : Int) (hl : l.length ≤ 1000000) : queue_Push.f l lat c.f0 c.f1 c.f2.f0 c.f2.f1 c.f2.f2 c.f2.f3 room = some (PU l lat c room) := by
  unfold queue_Push.f PU
  cases lat with
  | true => rw [if_pos rfl, if_pos rfl]
  | false =>
    have e1 : api_Change_39.f l = some l := by
      show XCloneChg.slices_Clone.f l = _
      unfold XCloneChg.slices_Clone.f
      rw [if_pos (by omega)]
    have e2 : api_Change_40.f [l, [c]] = some (l ++ [c]) := by
      show XConcatChg.slices_Concat.f [l, [c]] = _
      unfold XConcatChg.slices_Concat.f
      rw [if_pos (by simp; omega)]
      simp
    have e3 : (⟨c.f0, c.f1, (⟨c.f2.f0, c.f2.f1, c.f2.f2, c.f2.f3⟩ : S31)⟩ : Ch) = c := rfl
    simp only [Bool.false_eq_true, if_false, place_f, e1, e3, Option.bind_some, decide_eq_true_eq]
    by_cases c1 : 0 ≤ idx (is c.f0) l 0
    · rw [if_pos c1, if_pos c1, if_pos c1, if_pos (idx_lt _ l)]
    · rw [if_neg c1, if_neg c1]
      by_cases c2 : (l.length : Int) < room
      · rw [if_pos c2, if_pos c2, e2]
        rfl
      · rw [if_neg c2, if_neg c2]
theorem refPush_f (k : Nat) (l : List Ch) (lat : Bool) (c : Ch) (room : Int) (hl : l.length ≤ 1000000) (hk : l.length < k) : rollcallref17_Push.f k l lat c.f0 c.f1 c.f2.f0 c.f2.f1 c.f2.f2 c.f2.f3 room = some (PU l lat c room) := by
  unfold rollcallref17_Push.f PU
  cases lat with
  | true => rw [if_pos rfl, if_pos rfl]
  | false =>
    have e3 : (⟨c.f0, c.f1, (⟨c.f2.f0, c.f2.f1, c.f2.f2, c.f2.f3⟩ : S31)⟩ : Ch) = c := rfl
    rw [if_neg (by simp), if_neg (by simp)]
    simp only [Option.bind_some, List.length_nil, List.nil_append, e3]
    rw [if_pos (by omega), refPlace_f k l _ false hl hk]
    simp only [Option.bind_some]
    by_cases c1 : 0 ≤ idx (is c.f0) l 0
    · rw [if_pos c1, if_pos c1, if_pos c1, if_pos (idx_lt _ l)]
    · rw [if_neg c1, if_neg c1]
      by_cases c2 : (l.length : Int) < room
      · rw [if_pos c2, if_pos c2, if_pos (by omega)]
      · rw [if_neg c2, if_neg c2]
/-! ## the same -/
theorem sameL (l : List Ch) (hl : l.length ≤ 1000000) : ∀ (d k j : Nat), j + d = l.length → d < k → rollcallref05_SameChanges.l0 k l l (j : Int) = some true := by
  intro d
  induction d with
  | zero =>
    intro k j hj hk
    obtain ⟨k, rfl⟩ : ∃ m, k = m + 1 := ⟨k - 1, by omega⟩
    rw [rollcallref05_SameChanges.l0, if_neg (by omega)]
  | succ d ih =>
    intro k j hj hk
    obtain ⟨k, rfl⟩ : ∃ m, k = m + 1 := ⟨k - 1, by omega⟩
    rw [rollcallref05_SameChanges.l0, if_pos (by omega), if_pos (by omega), if_pos (by omega), if_neg (by simp), wrap_succ j (by omega)]
    exact ih k (j + 1) (by omega) (by omega)
theorem same_f (k : Nat) (l : List Ch) (b : Bool) (hl : l.length ≤ 1000000) (hk : l.length < k) : rollcallref17_Same.f k l b l b = some true := by
  unfold rollcallref17_Same.f rollcallref05_SameChanges.f
  have h0 := sameL l hl l.length k 0 (by omega) hk
  rw [Int.natCast_zero] at h0
  rw [if_pos (by simp), if_pos rfl, h0]
  rfl
theorem PU_len (l : List Ch) (lat : Bool) (c : Ch) (room : Int) : (PU l lat c room).1.length ≤ l.length + 1 := by
  unfold PU
  split
  · simp
  · split
    · simp
    · split <;> simp
theorem changesL (l : List Ch) (hl : l.length ≤ 1000000) : ∀ (d k j : Nat), j + d = l.length → d < k → ∃ b, rollcallref17_Changes.l0 k l (j : Int) = some b := by
  intro d
  induction d with
  | zero =>
    intro k j hj hk
    obtain ⟨k, rfl⟩ : ∃ m, k = m + 1 := ⟨k - 1, by omega⟩
    rw [rollcallref17_Changes.l0, if_neg (by omega)]
    exact ⟨_, rfl⟩
  | succ d ih =>
    intro k j hj hk
    obtain ⟨k, rfl⟩ : ∃ m, k = m + 1 := ⟨k - 1, by omega⟩
    rw [rollcallref17_Changes.l0, if_pos (by omega), if_pos (by omega), wrap_succ j (by omega)]
    split
    · exact ⟨_, rfl⟩
    · split
      · exact ⟨_, rfl⟩
      · exact ih k (j + 1) (by omega) (by omega)
theorem changes_f (k : Nat) (l : List Ch) (most : Int) (hm : most ≤ 1000000) (hk : most.toNat < k) : ∃ b, rollcallref17_Changes.f k l most = some b ∧ (b = true → (l.length : Int) ≤ most) := by
  unfold rollcallref17_Changes.f
  by_cases c : (l.length : Int) > most
  · rw [if_pos c]
    exact ⟨_, rfl, fun h => by cases h⟩
  · rw [if_neg c]
    obtain ⟨b, hb⟩ := changesL l (by omega) l.length k 0 (by omega) (by omega)
    exact ⟨b, hb, fun _ => by omega⟩
theorem few_f (k : Nat) (l : List Ch) (b : Bool) (hk : 60 ≤ k) : ∃ q, rollcallref17_Few.f k l b = some q ∧ (q = true → l.length ≤ 30) := by
  unfold rollcallref17_Few.f
  obtain ⟨q, hq, h⟩ := changes_f k l 30 (by omega) (by omega)
  rw [hq]
  exact ⟨q, rfl, fun e => by have := h e; omega⟩
theorem live_100 : rollcalllaw17_live.f 100 = some true := by kernel_rfl
theorem live_f (k : Nat) (hk : 100 ≤ k) : rollcalllaw17_live.f k = some true := at_rounds rollcalllaw17_live.mono hk live_100
end Go.Proofs.Ythcmelchgnekpaa.XV17
/- Queues over tables, in plain lists: which queues may be; what is set over a table. -/
namespace Go.Proofs.Ythcmelchgnekpaa.XV17
open Go.RowKit Go.Proofs.Ythcmelchgnekpaa.PA Go.Proofs.YthcmelchgnekpaaW.PrintWords Go.Proofs.YthcmelchgnekpaaW.PrintLast Go.Proofs.Ythcmelchgnekpaa.XGen
open Go.Proofs.Ythcmelchgnekpaa.XPlace (idx is)
open Go.Proofs.Ythcmelchgnekpaa.XSet (atL setL)
open Go.Proofs.Ythcmelchgnekpaa.XIns (insL insL_len)
open Go.Proofs.Ythcmelchgnekpaa.XLess (lessB)
set_option linter.unusedVariables false
set_option linter.unusedSimpArgs false
abbrev Se := S52
def nth (l : List Ch) (j : Nat) : Ch := l.getD j z33
theorem nth_get (l : List Ch) (j : Nat) (h : j < l.length) : nth l j = l[j] := getD_lt l _ j h
def allO (l : List Ch) : Nat → Nat → Bool
  | 0, _ => true
  | d + 1, j => (decide (idx (is (nth l j).f0) l 0 = (j : Int)) && oneB (nth l j)) && allO l d (j + 1)
def mayQ (l : List Ch) (lat : Bool) (room : Int) : Bool := allO l l.length 0 && (decide ((l.length : Int) ≤ room) && (!lat || decide (l.length = 0)))
theorem mayLB (l : List Ch) (lat : Bool) (room : Int) (hl : l.length ≤ 1000000) (hs : ∀ x ∈ l, x.f0.size ≤ 9223372036854775807) : ∀ (d k j : Nat), j + d = l.length → d < k →
    queue_May.l0 k room l (l.length : Int) (j : Int) l lat = some (allO l d j && (decide ((l.length : Int) ≤ room) && (!lat || decide (l.length = 0)))) := by
  intro d
  induction d with
  | zero =>
    intro k j hj hk
    obtain ⟨k, rfl⟩ : ∃ m, k = m + 1 := ⟨k - 1, by omega⟩
    rw [queue_May.l0, if_neg (by omega)]
    by_cases c : (l.length : Int) ≤ room
    · rw [if_pos c]
      cases lat with
      | true =>
        rw [if_pos rfl]
        simp only [allO, Bool.true_and, decide_eq_true c, Bool.not_true, Bool.false_or]
        congr 1
        by_cases e : l.length = 0
        · rw [decide_eq_true e, e]; rfl
        · rw [decide_eq_false e]; simpa using e
      | false => rw [if_neg (by simp)]; simp [allO, c]
    · rw [if_neg c]; simp [c]
  | succ d ih =>
    intro k j hj hk
    obtain ⟨k, rfl⟩ : ∃ m, k = m + 1 := ⟨k - 1, by omega⟩
    have hm : l[j] ∈ l := List.getElem_mem _
    rw [queue_May.l0, if_pos (by omega), if_pos (by omega), if_pos (by omega), rd_at l j (by omega), place_f]
    simp only [Option.bind_some]
    rw [allO, nth_get l j (by omega)]
    by_cases c : idx (is l[j].f0) l 0 = (j : Int)
    · rw [if_pos c, one_f l[j] (hs _ hm), decide_eq_true c]
      simp only [Option.bind_some, Bool.true_and]
      cases ho : oneB l[j] with
      | true => rw [if_pos rfl, wrap_succ j (by omega), ih k (j + 1) (by omega) (by omega), Bool.true_and]
      | false => rw [if_neg (by simp), Bool.false_and, Bool.false_and]
    · rw [if_neg c, decide_eq_false c, Bool.false_and, Bool.false_and, Bool.false_and]
theorem may_b (k : Nat) (l : List Ch) (lat : Bool) (room : Int) (hl : l.length ≤ 1000000) (hs : ∀ x ∈ l, x.f0.size ≤ 9223372036854775807) (hk : l.length < k) : queue_May.f k l lat room = some (mayQ l lat room) := mayLB l lat room hl hs l.length k 0 (by omega) hk
theorem refMayLB (l : List Ch) (lat : Bool) (hl : l.length ≤ 1000000) : ∀ (d k j : Nat), j + d = l.length → d + l.length + 100 < k → rollcallref17_May.l0 k (j : Int) l lat = some (allO l d j) := by
  intro d
  induction d with
  | zero =>
    intro k j hj hk
    obtain ⟨k, rfl⟩ : ∃ m, k = m + 1 := ⟨k - 1, by omega⟩
    rw [rollcallref17_May.l0, if_neg (by omega)]
    rfl
  | succ d ih =>
    intro k j hj hk
    obtain ⟨k, rfl⟩ : ∃ m, k = m + 1 := ⟨k - 1, by omega⟩
    rw [rollcallref17_May.l0, if_pos (by omega), if_pos (by omega), rd_at l j (by omega), refOne_f k l[j] (by omega)]
    simp only [Option.bind_some]
    rw [allO, nth_get l j (by omega)]
    cases ho : oneB l[j] with
    | true =>
      rw [if_pos rfl, refPlace_f k l _ _ hl (by omega)]
      simp only [Option.bind_some]
      by_cases c : idx (is l[j].f0) l 0 = (j : Int)
      · rw [if_pos c, wrap_succ j (by omega), ih k (j + 1) (by omega) (by omega), decide_eq_true c]
        simp
      · rw [if_neg c, decide_eq_false c]
        simp
    | false => rw [if_neg (by simp)]; simp
theorem refMay_b (k : Nat) (l : List Ch) (lat : Bool) (room : Int) (hl : l.length ≤ 1000000) (hk : 2 * l.length + 110 < k) : rollcallref17_May.f k l lat room = some (mayQ l lat room) := by
  have hj : ∀ b, rollcallref17_May.j0 k b l lat = some (!b && allO l l.length 0) := fun b => by
    obtain ⟨k, rfl⟩ : ∃ m, k = m + 1 := ⟨k - 1, by omega⟩
    rw [rollcallref17_May.j0]
    cases b with
    | true => rw [if_pos rfl]; simp
    | false => rw [if_neg (by simp)]; rw [show (0 : Int) = ((0 : Nat) : Int) from rfl, refMayLB l lat hl l.length k 0 (by omega) (by omega)]; simp
  unfold rollcallref17_May.f mayQ
  rw [hj, hj, hj]
  by_cases c : (l.length : Int) > room
  · rw [if_pos c, decide_eq_false (by omega)]; simp
  · rw [if_neg c, decide_eq_true (show (l.length : Int) ≤ room by omega)]
    cases lat with
    | true =>
      rw [if_pos rfl]
      by_cases e : l.length = 0
      · rw [decide_eq_true e, decide_eq_false (by omega)]; simp
      · rw [decide_eq_false e, decide_eq_true (by omega)]; simp
    | false => rw [if_neg (by simp)]; simp
def findQ (l : List Ch) (n : ByteArray) : ByteArray × Bool × Int × Int × Int × ByteArray × Bool :=
  if 0 ≤ idx (is n) l 0 then ((rd_T33 l (idx (is n) l 0)).f0, (rd_T33 l (idx (is n) l 0)).f1, (rd_T33 l (idx (is n) l 0)).f2.f0, (rd_T33 l (idx (is n) l 0)).f2.f1, (rd_T33 l (idx (is n) l 0)).f2.f2, (rd_T33 l (idx (is n) l 0)).f2.f3, true) else (⟨#[]⟩, false, 0, 0, 0, ⟨#[]⟩, false)
theorem find_b (l : List Ch) (lat : Bool) (n : ByteArray) : queue_Find.f l lat n = some (findQ l n) := by
  unfold queue_Find.f findQ
  rw [place_f]
  simp only [Option.bind_some]
  have := idx_lt (is n) l
  by_cases c : 0 ≤ idx (is n) l 0
  · rw [decide_eq_true c, if_pos rfl, if_pos c, if_pos c]
    by_cases d : idx (is n) l 0 < (l.length : Int)
    · rw [if_pos d]
    · rcases idx_no (is n) l 0 (by omega) with ⟨h, _⟩ | ⟨j, h, h2, _⟩ <;> omega
  · rw [decide_eq_false c, if_neg (by simp), if_neg c]
theorem refFind_b (k : Nat) (l : List Ch) (lat : Bool) (n : ByteArray) (hl : l.length ≤ 1000000) (hk : l.length < k) : rollcallref17_Find.f k l lat n = some (findQ l n) := by
  unfold rollcallref17_Find.f findQ
  rw [refPlace_f k l _ _ hl hk]
  simp only [Option.bind_some]
  by_cases c : 0 ≤ idx (is n) l 0
  · rw [if_neg (by omega), if_pos c, if_pos c]
    by_cases d : idx (is n) l 0 < (l.length : Int)
    · rw [if_pos d]
    · rcases idx_no (is n) l 0 (by omega) with ⟨h, _⟩ | ⟨j, h, h2, _⟩ <;> omega
  · rw [if_pos (by omega), if_neg c]
def popQ (l : List Ch) (lat : Bool) : ByteArray × Bool × Int × Int × Int × ByteArray × List Ch × Bool × Bool :=
  if l.length = 0 then (⟨#[]⟩, false, 0, 0, 0, ⟨#[]⟩, l, lat, false) else ((rd_T33 l 0).f0, (rd_T33 l 0).f1, (rd_T33 l 0).f2.f0, (rd_T33 l 0).f2.f1, (rd_T33 l 0).f2.f2, (rd_T33 l 0).f2.f3, l.drop 1, lat, true)
theorem pop_b (l : List Ch) (lat : Bool) : queue_Pop.f l lat = some (popQ l lat) := by
  unfold queue_Pop.f popQ
  by_cases c : l.length = 0
  · rw [if_pos (by omega), if_pos c]
  · rw [if_neg (by omega), if_neg c, if_pos (by omega), if_pos (by omega)]
theorem refPop_b (l : List Ch) (lat : Bool) : rollcallref17_Pop.f l lat = some (popQ l lat) := by
  unfold rollcallref17_Pop.f popQ
  by_cases c : l.length = 0
  · rw [if_pos (by omega), if_pos c]
  · rw [if_neg (by omega), if_neg c, if_pos (by omega), if_pos (by omega)]
theorem empty_b (l : List Ch) (lat : Bool) : queue_Empty.f l lat = some (decide (l.length = 0) && !lat) := by
  unfold queue_Empty.f
  by_cases c : l.length = 0
  · rw [if_pos (by omega), decide_eq_true c]; rfl
  · rw [if_neg (by omega), decide_eq_false c]; rfl
theorem refEmpty_b (l : List Ch) (lat : Bool) : rollcallref17_Empty.f l lat = some (decide (l.length = 0) && !lat) := by
  unfold rollcallref17_Empty.f
  by_cases c : l.length = 0
  · rw [if_pos (by omega), decide_eq_true c]; rfl
  · rw [if_neg (by omega), decide_eq_false c]; rfl
theorem less_bytes : ∀ a b : List UInt8, Op.bytesLess a b = decide (Lib.compareBytes a b < 0)
  | [], [] => rfl
  | [], _ :: _ => rfl
  | _ :: _, [] => rfl
  | x :: a, y :: b => by
    rw [Op.bytesLess, Lib.compareBytes]
    by_cases c : x < y
    · simp [c]
    · rw [if_neg c]
      by_cases d : y < x
      · rw [if_pos d]
        have hne : ¬ x = y := fun e => by subst e; exact c d
        simp [c, hne]
      · rw [if_neg d]
        have he : x = y := by
          have h1 : ¬ x.toNat < y.toNat := fun h => c h
          have h2 : ¬ y.toNat < x.toNat := fun h => d h
          exact UInt8.toNat_inj.1 (by omega)
        subst he
        simp [less_bytes a b]
theorem refLess_b (a b : ByteArray) : rollcallref03_Less.f a b = some (lessB a b) := by
  unfold rollcallref03_Less.f lessB XLess.ordI XLess.orI XLess.cmpI XLess.byBytes
  by_cases c : (a.size : Int) < (b.size : Int)
  · rw [if_pos c, if_pos c]; rfl
  · rw [if_neg c, if_neg c]
    by_cases d : (a.size : Int) = (b.size : Int)
    · rw [if_pos d, if_neg (by omega), less_bytes, Lib.toList_data, Lib.toList_data]
    · rw [if_neg d, if_pos (by omega), if_pos (show (a.size : Int) > (b.size : Int) by omega)]; rfl
theorem rdS_at (l : List Se) (j : Nat) (h : j < l.length) : rd_T52 l (j : Int) = l[j] := by
  unfold rd_T52
  rw [Int.toNat_natCast, getD_lt l _ j h]
def isS (n : ByteArray) (x : Se) : Bool := x.f0.toList == n.toList
theorem refSet1 (n : ByteArray) (a b c : Int) (s : ByteArray) (rest : List Se) (hr : rest.length < 1000000) : ∀ (d k j at_ : Nat), j + d = rest.length → d < k → at_ ≤ j →
    rollcallref05_Set.l1 k rest (at_ : Int) (j : Int) n true a b c s = some (insL rest (atL n (rest.drop j) j at_) ⟨n, ⟨a, b, c, s⟩⟩) := by
  intro d
  induction d with
  | zero =>
    intro k j p hj hk hp
    obtain ⟨k, rfl⟩ : ∃ m, k = m + 1 := ⟨k - 1, by omega⟩
    rw [rollcallref05_Set.l1, if_neg (by omega), show rest.drop j = [] from List.drop_eq_nil_of_le (by omega)]
    simp only [Option.bind_some, List.nil_append, List.length_nil, Nat.zero_add, Int.toNat_natCast, atL]
    rw [if_pos (by omega), if_pos (by omega), if_pos (by rw [List.length_take]; omega), if_pos (by rw [List.length_take]; omega), if_pos (by simp only [List.length_append, List.length_take, List.length_drop, List.length_cons, List.length_nil]; omega)]
    simp [insL]
  | succ d ih =>
    intro k j p hj hk hp
    obtain ⟨k, rfl⟩ : ∃ m, k = m + 1 := ⟨k - 1, by omega⟩
    rw [rollcallref05_Set.l1, if_pos (by omega), if_pos (by omega), rdS_at rest j (by omega), refLess_b, drop_get rest j (by omega), atL]
    simp only [Option.bind_some]
    by_cases c : lessB rest[j].f0 n = true
    · rw [if_pos c, if_pos c, wrap_succ j (by omega)]
      exact ih k (j + 1) (j + 1) (by omega) (by omega) (Nat.le_refl _)
    · rw [if_neg c, if_neg c, wrap_succ j (by omega)]
      exact ih k (j + 1) p (by omega) (by omega) (by omega)
theorem refSet0 (n : ByteArray) (on : Bool) (a b c : Int) (s : ByteArray) (t : List Se) (ht : t.length < 1000000) : ∀ (d k j : Nat) (acc : List Se), j + d = t.length → d + t.length + 2 < k → acc.length ≤ j →
    rollcallref05_Set.l0 k t acc (j : Int) n on a b c s = some (if on = true then insL (acc ++ (t.drop j).filter fun x => !isS n x) (atL n (acc ++ (t.drop j).filter fun x => !isS n x) 0 0) ⟨n, ⟨a, b, c, s⟩⟩ else acc ++ (t.drop j).filter fun x => !isS n x) := by
  intro d
  induction d with
  | zero =>
    intro k j acc hj hk ha
    obtain ⟨k, rfl⟩ : ∃ m, k = m + 1 := ⟨k - 1, by omega⟩
    rw [rollcallref05_Set.l0, if_neg (by omega), List.drop_eq_nil_of_le (by omega), List.filter_nil, List.append_nil]
    cases on with
    | true =>
      rw [if_pos rfl, if_pos rfl]
      have := refSet1 n a b c s acc (by omega) acc.length k 0 0 (by omega) (by omega) (Nat.le_refl _)
      rw [List.drop_zero] at this
      exact this
    | false => rw [if_neg (by simp), if_neg (by simp)]
  | succ d ih =>
    intro k j acc hj hk ha
    obtain ⟨k, rfl⟩ : ∃ m, k = m + 1 := ⟨k - 1, by omega⟩
    rw [rollcallref05_Set.l0, if_pos (by omega), if_pos (by omega), rdS_at t j (by omega), wrap_succ j (by omega), drop_get t j (by omega)]
    by_cases q : t[j].f0.toList = n.toList
    · rw [if_pos q, ih k (j + 1) acc (by omega) (by omega) (by omega)]
      have e : isS n t[j] = true := by simpa [isS] using q
      rw [List.filter_cons, e]
      rfl
    · rw [if_neg q, if_pos (by omega), ih k (j + 1) _ (by omega) (by omega) (by simp; omega)]
      have e : isS n t[j] = false := by simpa [isS] using q
      rw [List.filter_cons, e, List.append_assoc]
      rfl
theorem refSet_b (k : Nat) (t : List Se) (c : Ch) (ht : t.length < 1000000) (hk : 2 * t.length + 2 < k) : rollcallref05_Set.f k t c.f0 c.f1 c.f2.f0 c.f2.f1 c.f2.f2 c.f2.f3 = some (setL t c.f0 c.f1 c.f2.f0 c.f2.f1 c.f2.f2 c.f2.f3) := by
  unfold rollcallref05_Set.f setL
  have := refSet0 c.f0 c.f1 c.f2.f0 c.f2.f1 c.f2.f2 c.f2.f3 t ht t.length k 0 [] (by omega) (by omega) (Nat.le_refl _)
  rw [List.drop_zero, List.nil_append] at this
  exact this
def setC (t : List Se) (c : Ch) : List Se := setL t c.f0 c.f1 c.f2.f0 c.f2.f1 c.f2.f2 c.f2.f3
theorem setC_len (t : List Se) (c : Ch) : (setC t c).length ≤ t.length + 1 := by
  unfold setC setL
  have h : ∀ p : Se → Bool, (t.filter p).length ≤ t.length := fun p => List.length_filter_le _ _
  split
  · rw [insL_len]; exact Nat.add_le_add_right (h _) 1
  · exact Nat.le_succ_of_le (h _)
def overQ (t : List Se) (l : List Ch) : List Se := l.foldl setC t
theorem overL (l : List Ch) (hl : l.length ≤ 1000) : ∀ (d k j : Nat) (t : List Se), j + d = l.length → d < k → t.length + d < 900000 → queue_Over.l0 k t l (l.length : Int) (j : Int) = some (overQ t (l.drop j)) := by
  intro d
  induction d with
  | zero =>
    intro k j t hj hk ht
    obtain ⟨k, rfl⟩ : ∃ m, k = m + 1 := ⟨k - 1, by omega⟩
    rw [queue_Over.l0, if_neg (by omega), List.drop_eq_nil_of_le (by omega)]
    rfl
  | succ d ih =>
    intro k j t hj hk ht
    obtain ⟨k, rfl⟩ : ∃ m, k = m + 1 := ⟨k - 1, by omega⟩
    rw [queue_Over.l0, if_pos (by omega), if_pos (by omega), if_pos (by omega), rd_at l j (by omega), drop_get l j (by omega)]
    have e : digest_Set.f t l[j].f0 l[j].f1 l[j].f2.f0 l[j].f2.f1 l[j].f2.f2 l[j].f2.f3 = some (setC t l[j]) := by
      show XSet.digest_Set.f _ _ _ _ _ _ _ = _
      unfold XSet.digest_Set.f
      rw [if_pos (by omega)]
      rfl
    rw [e]
    simp only [Option.bind_some]
    have := setC_len t l[j]
    rw [wrap_succ j (by omega), ih k (j + 1) _ (by omega) (by omega) (by omega)]
    rfl
theorem over_b (k : Nat) (t : List Se) (l : List Ch) (lat : Bool) (hl : l.length ≤ 1000) (ht : t.length ≤ 1000) (hk : l.length < k) : queue_Over.f k t l lat = some (overQ t l) := by
  have := overL l hl l.length k 0 t (by omega) hk (by omega)
  rw [List.drop_zero] at this
  exact this
theorem refOverL (l : List Ch) (lat : Bool) (hl : l.length ≤ 1000) : ∀ (d k j : Nat) (t : List Se), j + d = l.length → d + 2 * (t.length + d) + 10 < k → t.length + d < 900000 → rollcallref17_Over.l0 k t (j : Int) l lat = some (overQ t (l.drop j)) := by
  intro d
  induction d with
  | zero =>
    intro k j t hj hk ht
    obtain ⟨k, rfl⟩ : ∃ m, k = m + 1 := ⟨k - 1, by omega⟩
    rw [rollcallref17_Over.l0, if_neg (by omega), List.drop_eq_nil_of_le (by omega)]
    rfl
  | succ d ih =>
    intro k j t hj hk ht
    obtain ⟨k, rfl⟩ : ∃ m, k = m + 1 := ⟨k - 1, by omega⟩
    rw [rollcallref17_Over.l0, if_pos (by omega), if_pos (by omega), rd_at l j (by omega), drop_get l j (by omega), refSet_b k t l[j] (by omega) (by omega)]
    simp only [Option.bind_some]
    have := setC_len t l[j]
    unfold setC at this
    rw [wrap_succ j (by omega), ih k (j + 1) _ (by omega) (by omega) (by omega)]
    rfl
theorem refOver_b (k : Nat) (t : List Se) (l : List Ch) (lat : Bool) (hl : l.length ≤ 1000) (ht : t.length ≤ 1000) (hk : 6010 < k) : rollcallref17_Over.f k t l lat = some (overQ t l) := by
  have := refOverL l lat hl l.length k 0 t (by omega) (by omega) (by omega)
  rw [List.drop_zero] at this
  exact this
theorem sameSL (l : List Se) (hl : l.length ≤ 1000000) : ∀ (d k j : Nat), j + d = l.length → d < k → rollcallref05_Same.l0 k l l (j : Int) = some true := by
  intro d
  induction d with
  | zero =>
    intro k j hj hk
    obtain ⟨k, rfl⟩ : ∃ m, k = m + 1 := ⟨k - 1, by omega⟩
    rw [rollcallref05_Same.l0, if_neg (by omega)]
  | succ d ih =>
    intro k j hj hk
    obtain ⟨k, rfl⟩ : ∃ m, k = m + 1 := ⟨k - 1, by omega⟩
    rw [rollcallref05_Same.l0, if_pos (by omega), if_pos (by omega), if_pos (by omega), if_neg (by simp), wrap_succ j (by omega)]
    exact ih k (j + 1) (by omega) (by omega)
theorem sameS_f (k : Nat) (l : List Se) (hl : l.length ≤ 1000000) (hk : l.length < k) : rollcallref05_Same.f k l l = some true := by
  unfold rollcallref05_Same.f
  rw [if_pos rfl]
  exact sameSL l hl l.length k 0 (by omega) hk
theorem overQ_len (l : List Ch) : ∀ t : List Se, (overQ t l).length ≤ t.length + l.length := by
  induction l with
  | nil => intro t; exact Nat.le_refl _
  | cons c l ih =>
    intro t
    have h1 := setC_len t c
    have h2 := ih (setC t c)
    show (overQ (setC t c) l).length ≤ _
    simp only [List.length_cons]
    omega
theorem fewSL (l : List Se) (hl : l.length ≤ 1000000) : ∀ (d k j : Nat), j + d = l.length → d < k → ∃ b, rollcallref05_Few.l0 k l (j : Int) = some b := by
  intro d
  induction d with
  | zero =>
    intro k j hj hk
    obtain ⟨k, rfl⟩ : ∃ m, k = m + 1 := ⟨k - 1, by omega⟩
    rw [rollcallref05_Few.l0, if_neg (by omega)]
    exact ⟨_, rfl⟩
  | succ d ih =>
    intro k j hj hk
    obtain ⟨k, rfl⟩ : ∃ m, k = m + 1 := ⟨k - 1, by omega⟩
    rw [rollcallref05_Few.l0, if_pos (by omega), if_pos (by omega), wrap_succ j (by omega)]
    obtain ⟨b, hb⟩ := ih k (j + 1) (by omega) (by omega)
    split
    · exact ⟨_, rfl⟩
    · split
      · exact ⟨_, rfl⟩
      · exact ⟨b, hb⟩
theorem fewS_f (k : Nat) (l : List Se) (hk : 60 ≤ k) : ∃ q, rollcallref05_Few.f k l = some q ∧ (q = true → l.length ≤ 40) := by
  unfold rollcallref05_Few.f
  by_cases c : (l.length : Int) > 40
  · rw [if_pos c]; exact ⟨_, rfl, fun h => by cases h⟩
  · rw [if_neg c]
    obtain ⟨b, hb⟩ := fewSL l (by omega) l.length k 0 (by omega) (by omega)
    exact ⟨b, hb, fun _ => by omega⟩
end Go.Proofs.Ythcmelchgnekpaa.XV17
/- law17's QueueTells, walked: whether any change and any queue may be, what is first, whether anyone's is there, and what it makes of any table. -/
namespace Go.Proofs.Ythcmelchgnekpaa.XHand
open Go.RowKit Go.Proofs.YthcmelchgnekpaaW.PrintWords Go.Proofs.YthcmelchgnekpaaW.PrintLast Go.Proofs.YthcmelchgnekpaaW.PrintMore Go.Proofs.Ythcmelchgnekpaa.XQuiet Go.Proofs.Ythcmelchgnekpaa.XMem Go.Proofs.Ythcmelchgnekpaa.PA Go.Proofs.Ythcmelchgnekpaa.XV17
open Go.Proofs.Ythcmelchgnekpaa.XLive17 hiding Ch Se
set_option linter.unusedVariables false
set_option linter.unusedSimpArgs false
attribute [local go_sem high] eqA33
theorem few_im {w : World} {v : Value} {l : List Ch} {b r : Bool} (h : Im kCh w v l) (hf : rollcallref17_Few.f 60 l b = some r) :
    Calls Try.prog 8 #[.agg #[v, .bool b]] w fun e w' => e = .returned (.bool r) ∧ Below w.heap.size w w' := by
  obtain ⟨A, c, rfl, hc, hC⟩ := h.slice
  exact rollcallref17_Few.calls 60 A c l b r w hC hc hf
theorem fewS_im {w : World} {v : Value} {l : List Se} {r : Bool} (h : Im kSe w v l) (hf : rollcallref05_Few.f 60 l = some r) :
    Calls Try.prog 9 #[v] w fun e w' => e = .returned (.bool r) ∧ Below w.heap.size w w' := by
  obtain ⟨A, c, rfl, hc, hC⟩ := h.slice
  exact (rollcallref05_Few.calls 60 A c l r w hC hc hf).mono fun _ _ ⟨h1, h2⟩ => ⟨h1, h2.below⟩
theorem mayk_im {w : World} {v : Value} {l : List Ch} {b r : Bool} {room : Int} (h : Im kCh w v l) (hf : queue_May.f 200 l b room = some r) :
    Calls Try.prog 13 #[.agg #[v, .bool b], .int .i64 room] w fun e w' => e = .returned (.bool r) ∧ Below w.heap.size w w' := by
  obtain ⟨A, c, rfl, hc, hC⟩ := h.slice
  exact queue_May.calls 200 A c l b room r w hC hc hf
theorem rmayk_im {w : World} {v : Value} {l : List Ch} {b r : Bool} {room : Int} (h : Im kCh w v l) (hf : rollcallref17_May.f 200 l b room = some r) :
    Calls Try.prog 14 #[.agg #[v, .bool b], .int .i64 room] w fun e w' => e = .returned (.bool r) ∧ Below w.heap.size w w' := by
  obtain ⟨A, c, rfl, hc, hC⟩ := h.slice
  exact rollcallref17_May.calls 200 A c l b room r w hC hc hf
theorem rpop_im {w : World} {v : Value} {l : List Ch} {b : Bool} {r1 : ByteArray} {r2 : Bool} {r3 r4 r5 : Int} {r6 : ByteArray} {r7 : List Ch} {r8 r9 : Bool} (h : Im kCh w v l) (n : Nat) (hf : rollcallref17_Pop.f l b = some (r1, r2, r3, r4, r5, r6, r7, r8, r9)) (hn : r7.length = n) :
    Calls Try.prog 16 #[.agg #[v, .bool b]] w fun e w' => ∃ A c, e = .returned (.tuple #[.agg #[.string r1, .bool r2, .int .i64 r3, .int .i64 r4, .int .i64 r5, .string r6], .agg #[.slice A n c, .bool r8], .bool r9]) ∧ Im kCh w' (.slice A n c) r7 ∧ Below w.heap.size w w' := by
  subst hn
  obtain ⟨A, c, rfl, hc, hF⟩ := h
  exact (rollcallref17_Pop.calls (fun _ => True) A c l b r1 r2 r3 r4 r5 r6 r7 r8 r9 w ⟨A, c, rfl, hc, hF⟩ hf).mono fun e w' ⟨v0, he, hV, hb⟩ => by
    obtain ⟨A', c', rfl⟩ := Kd.V_slice hV
    exact ⟨A', c', he, Im.of_V hV, hb⟩
theorem rfind_im {w : World} {v : Value} {l : List Ch} {b : Bool} {s : ByteArray} {r1 : ByteArray} {r2 : Bool} {r3 r4 r5 : Int} {r6 : ByteArray} {r7 : Bool} (h : Im kCh w v l) (hf : rollcallref17_Find.f 200 l b s = some (r1, r2, r3, r4, r5, r6, r7)) :
    Calls Try.prog 18 #[.agg #[v, .bool b], .string s] w fun e w' => e = .returned (.tuple #[.agg #[.string r1, .bool r2, .int .i64 r3, .int .i64 r4, .int .i64 r5, .string r6], .bool r7]) ∧ Below w.heap.size w w' := by
  obtain ⟨A, c, rfl, hc, hC⟩ := h.slice
  exact rollcallref17_Find.calls 200 A c l b s r1 r2 r3 r4 r5 r6 r7 w hC hc hf
theorem samek_im {w : World} {v1 v2 : Value} {l1 l2 : List Ch} {b1 b2 r : Bool} (h1 : Im kCh w v1 l1) (h2 : Im kCh w v2 l2) (hf : rollcallref17_Same.f 200 l1 b1 l2 b2 = some r) :
    Calls Try.prog 19 #[.agg #[v1, .bool b1], .agg #[v2, .bool b2]] w fun e w' => e = .returned (.bool r) ∧ Below w.heap.size w w' := by
  obtain ⟨A, c, rfl, hc, hC⟩ := h1.slice
  obtain ⟨A2, c2, rfl, hc2, hC2⟩ := h2.slice
  exact rollcallref17_Same.calls 200 A c l1 b1 A2 c2 l2 b2 r w hC hc hC2 hc2 hf
theorem sameS_im {w : World} {v1 v2 : Value} {l1 l2 : List Se} {r : Bool} (h1 : Im kSe w v1 l1) (h2 : Im kSe w v2 l2) (hf : rollcallref05_Same.f 200 l1 l2 = some r) :
    Calls Try.prog 22 #[v1, v2] w fun e w' => e = .returned (.bool r) ∧ Below w.heap.size w w' := by
  obtain ⟨A, c, rfl, hc, hC⟩ := h1.slice
  obtain ⟨A2, c2, rfl, hc2, hC2⟩ := h2.slice
  exact (rollcallref05_Same.calls 200 A c l1 A2 c2 l2 r w hC hc hC2 hc2 hf).mono fun _ _ ⟨h1, h2⟩ => ⟨h1, h2.below⟩
theorem rempty_im {w : World} {v : Value} {l : List Ch} {b r : Bool} (h : Im kCh w v l) (hf : rollcallref17_Empty.f l b = some r) :
    Calls Try.prog 21 #[.agg #[v, .bool b]] w fun e w' => e = .returned (.bool r) ∧ Below w.heap.size w w' := by
  obtain ⟨A, c, rfl, hc, hC⟩ := h.slice
  exact rollcallref17_Empty.calls A c l b r w hC hc hf
theorem overk_im {w : World} {v1 v2 : Value} {t : List Se} {l : List Ch} {b : Bool} {r : List Se} (h1 : Im kSe w v1 t) (h2 : Im kCh w v2 l) (hf : queue_Over.f 200 t l b = some r) :
    Calls Try.prog 23 #[v1, .agg #[v2, .bool b]] w fun e w' => ∃ v', e = .returned v' ∧ Im kSe w' v' r ∧ Below w.heap.size w w' := by
  obtain ⟨A, c, rfl, hc, hF⟩ := h1
  obtain ⟨A2, c2, rfl, hc2, hC2⟩ := h2.slice
  exact (queue_Over.calls 200 (fun _ => True) A c t A2 c2 l b r w ⟨A, c, rfl, hc, hF⟩ hC2 hc2 hf).mono fun e w' ⟨v0, he, hV, hb⟩ => ⟨v0, he, Im.of_V hV, hb⟩
theorem rover_im {w : World} {v1 v2 : Value} {t : List Se} {l : List Ch} {b : Bool} {r : List Se} (h1 : Im kSe w v1 t) (h2 : Im kCh w v2 l) (hf : rollcallref17_Over.f 7000 t l b = some r) :
    Calls Try.prog 24 #[v1, .agg #[v2, .bool b]] w fun e w' => ∃ v', e = .returned v' ∧ Im kSe w' v' r ∧ Below w.heap.size w w' := by
  obtain ⟨A, c, rfl, hc, hF⟩ := h1
  obtain ⟨A2, c2, rfl, hc2, hC2⟩ := h2.slice
  exact (rollcallref17_Over.calls 7000 (fun _ => True) A c t A2 c2 l b r w ⟨A, c, rfl, hc, hF⟩ hC2 hc2 hf).mono fun e w' ⟨v0, he, hV, hb⟩ => ⟨v0, he, Im.of_V hV, hb⟩
theorem popQ_len (l : List Ch) (b : Bool) : (popQ l b).2.2.2.2.2.2.1.length ≤ l.length := by
  unfold popQ
  split
  · exact Nat.le_refl _
  · simp
set_option maxRecDepth 100000 in
set_option maxHeartbeats 8000000 in
theorem queueTells_walk (A0 : Option Addr) (c0 : Nat) (l : List Ch) (lat : Bool) (A1 : Option Addr) (c1 : Nat) (t : List Se) (s : ByteArray) (w : World) (hr0 : Kd.C kCh w A0 l.length l) (hc0 : l.length ≤ c0) (hr1 : Kd.C kSe w A1 t.length t) (hc1 : t.length ≤ c1) (m0 : l.length ≤ maxLen) (o0 : ∀ x ∈ l, Ok33 x) (m1 : t.length ≤ maxLen) (o1 : ∀ x ∈ t, Ok52 x) (ms : s.size ≤ 140737488351232) :
    Calls Try.prog 3 #[.agg #[.slice A0 l.length c0, .bool lat], .slice A1 t.length c1, .string s] w fun e w' => e = .returned (.bool true) ∧ Below w.heap.size w w' := by
  have hi := Im.of_C k33_heap hr0 hc0
  have ht := Im.of_C k52_heap hr1 hc1
  have HO := Aside0.mk (fun (j : Nat) (hj : j < l.length) => (o0 l[j] (List.getElem_mem hj)).1)
  have hR := Aside0.mk hr0
  clear hr0 hr1 m0 m1 o1 o0
  obtain ⟨b0, hb0, hl0⟩ := few_f 60 l lat (by omega)
  obtain ⟨b1, hb1, hl1⟩ := fewS_f 60 t (by omega)
  have H0 := Aside0.mk hl0
  have H1 := Aside0.mk hl1
  have F0 := Aside0.mk hb0
  have F1 := Aside0.mk hb1
  have ms' : (s.size : Int) ≤ 140737488351232 := by omega
  clear hl0 hl1 hb0 hb1 hc0 hc1 ms
  go_enter Try.func3, Try.ntmps3
  have HB : Below w.heap.size w w := Below.refl _ _
  have hM : Mem w [] := Mem.nil w
  go_upto_region 1 with (fail)
  generalize hg : World.alloc _ _ = w1
  obtain ⟨HB1, hM1, hb⟩ := Mem.new hg HB hM
  replace hi := hi.below hb
  replace ht := ht.below hb
  replace hR := Aside0.mk (Kd.C_below hR.out hb)
  clear HB hM hg hb
  have HB := HB1
  have hM := hM1
  clear HB1 hM1
  generalize w.heap.size = p at hM ⊢
  have q0 := hM.cell 0 0 rfl rfl
  have q1 := hM.cell 0 1 rfl rfl
  go_wp2_with fail
  refine (few_im hi F0.out).mono ?_
  rintro e w2 ⟨rfl, hb2⟩
  clear q0 q1
  cases b0 with
  | false =>
    go_wp2_with fail
    refine (XLive17.live_walk w2).mono ?_
    rintro e wl ⟨rfl, bl⟩
    go_wp2
    go_ret
    exact ⟨rfl, below_step (below_step HB hb2) bl⟩
  | true =>
    have hl30 := H0.out rfl
    go_wp2_with fail
    refine (fewS_im (ht.below hb2) F1.out).mono ?_
    rintro e w3 ⟨rfl, hb3⟩
    have hb := below_step hb2 hb3
    clear hb2 hb3
    cases b1 with
    | false =>
      go_wp2_with fail
      refine (XLive17.live_walk w3).mono ?_
      rintro e wl ⟨rfl, bl⟩
      go_wp2
      go_ret
      exact ⟨rfl, below_step (below_step HB hb) bl⟩
    | true =>
      have ht40 := H1.out rfl
      by_cases hs : 60 < s.size
      · have hs' : (60 : Int) < (s.size : Int) := by omega
        clear hs
        go_wp2_with fail
        refine (XLive17.live_walk w3).mono ?_
        rintro e wl ⟨rfl, bl⟩
        go_wp2
        go_ret
        exact ⟨rfl, below_step (below_step HB hb) bl⟩
      · have hs' : (s.size : Int) ≤ 60 := by omega
        clear hs ms' H0 H1 F0 F1
        replace HB := below_step HB hb
        replace hM := hM.below hb
        replace hi := hi.below hb
        replace ht := ht.below hb
        replace hR := Aside0.mk (Kd.C_below hR.out hb)
        clear hb
        have hl' : (l.length : Int) ≤ 30 := by omega
        have HBr := Aside0.mk (Below.refl w3.heap.size w3)
        go_wp2
        go_loopw [7] (fun x wr => ∃ k : Nat, x = .int .i64 k ∧ k ≤ l.length ∧ Aside0 (Below w3.heap.size w3 wr)) (fun x _ => l.length - (intOf x).toNat)
        case atStart => exact ⟨0, rfl, Nat.zero_le _, HBr⟩
        case round =>
          obtain ⟨k, rfl, hk, hbr⟩ := hrel
          clear HBr
          have k0 : (0 : Int) ≤ (k : Int) := by omega
          have k1 : (k : Int) ≤ 30 := by omega
          by_cases hlt : k < l.length
          · have k2 : (k : Int) < (l.length : Int) := by omega
            have hMr := hM.below hbr.out
            obtain ⟨ad, he, h0, h1, h2, h3, h4, h5⟩ := at_T33 (Kd.C_below hR.out hbr.out) (k : Int) (by omega) (by omega)
            subst he
            rw [Int.toNat_natCast] at h0 h1 h2 h3 h4 h5
            rw [rd_at l k hlt] at h0 h1 h2 h3 h4 h5
            have hone := one_f l[k] (by have := HO.out k hlt; unfold maxLen at this; omega)
            have hone2 := refOne_f 200 l[k] (by omega)
            generalize l[k] = x at h0 h1 h2 h3 h4 h5 hone hone2
            generalize oneB x = qb at hone hone2
            have c1 := fun u : Kin wr => queue_One.calls x.f0 x.f1 x.f2.f0 x.f2.f1 x.f2.f2 x.f2.f3 qb u.at' hone
            have c2 := fun u : Kin wr => rollcallref17_One.calls 200 x.f0 x.f1 x.f2.f0 x.f2.f1 x.f2.f2 x.f2.f3 qb u.at' hone2
            have hqb : (qb != qb) = false := by simp
            have y0 : ∀ u : Kin wr, u.at'.cell? _ = _ := Kin.cell h0
            have y1 : ∀ u : Kin wr, u.at'.cell? _ = _ := Kin.cell h1
            have y2 : ∀ u : Kin wr, u.at'.cell? _ = _ := Kin.cell h2
            have y3 : ∀ u : Kin wr, u.at'.cell? _ = _ := Kin.cell h3
            have y4 : ∀ u : Kin wr, u.at'.cell? _ = _ := Kin.cell h4
            have y5 : ∀ u : Kin wr, u.at'.cell? _ = _ := Kin.cell h5
            have q0 := hMr.cell 0 0 rfl rfl
            have z0 : ∀ u : Kin wr, u.at'.cell? _ = _ := Kin.cell q0
            clear h0 h1 h2 h3 h4 h5 hMr hone hone2
            go_wp2_with fail
            refine region_kin (by kernel_rfl) (by kernel_rfl) ?_
            repeat (go_big_quiet_step ((first | (go_at_call 11; first | exact Kin.call (c1 _) | exact Kin.same (c1 _)) | (go_at_call 12; first | exact Kin.call (c2 _) | exact Kin.same (c2 _)))))
            refine wpQuiet_nil ?_
            rintro w6 ⟨⟨_, b6⟩, rfl⟩
            clear y0 y1 y2 y3 y4 y5 z0 c1 c2 q0
            go_wp2
            go_roundw
            case rel => exact ⟨k + 1, by go_num, by omega, ⟨below_step hbr.out b6⟩⟩
            case measure => simp [intOf]; omega
          · obtain rfl : k = l.length := by omega
            obtain ⟨w4, rfl⟩ : ∃ wo : World, wo = wr := ⟨_, rfl⟩
            replace HB := below_step HB hbr.out
            replace hM := hM.below hbr.out
            replace hi := hi.below hbr.out
            replace ht := ht.below hbr.out
            have k2 : (l.length : Int) ≤ (l.length : Int) := by omega
            have q0 := hM.cell 0 0 rfl rfl
            clear hbr hR
            have HBr := Aside0.mk (Below.refl w4.heap.size w4)
            go_wp2
            go_loopw [8] (fun x wr => ∃ j : Nat, x = .int .i64 ((j : Int) - 1) ∧ j ≤ 19 ∧ Aside0 (Below w4.heap.size w4 wr)) (fun x _ => (18 - intOf x).toNat)
            case atStart => exact ⟨0, rfl, by omega, HBr⟩
            case round =>
              obtain ⟨j, rfl, hj, hbr⟩ := hrel
              clear HBr q0
              have hMr := hM.below hbr.out
              have hir := hi.below hbr.out
              have q0 := hMr.cell 0 0 rfl rfl
              have q1 := hMr.cell 0 1 rfl rfl
              by_cases hlt : j < 19
              · have k2 : (j : Int) - 1 < 18 := by omega
                have k3 : (j : Int) < 19 := by omega
                have k4 : (0 : Int) ≤ (j : Int) := by omega
                have hm1 := may_b 200 l lat ((j : Int) - 1) (by omega) (fun x hx => by obtain ⟨i, hi, rfl⟩ := List.getElem_of_mem hx; have := HO.out i hi; unfold maxLen at this; omega) (by omega)
                have hm2 := refMay_b 200 l lat ((j : Int) - 1) (by omega) (by omega)
                generalize mayQ l lat ((j : Int) - 1) = qb at hm1 hm2
                have c1 := fun u : Kin wr => mayk_im (hir.below u.bel) hm1
                have c2 := fun u : Kin wr => rmayk_im (hir.below u.bel) hm2
                have hqb : (qb != qb) = false := by simp
                have z0 : ∀ u : Kin wr, u.at'.cell? _ = _ := Kin.cell q0
                have z1 : ∀ u : Kin wr, u.at'.cell? _ = _ := Kin.cell q1
                clear hMr hir hm1 hm2 q0 q1
                go_wp2_with fail
                refine region_kin (by kernel_rfl) (by kernel_rfl) ?_
                repeat (go_big_quiet_step ((first | (go_at_call 13; exact Kin.call (c1 _)) | (go_at_call 14; exact Kin.call (c2 _)))))
                refine wpQuiet_nil ?_
                rintro w6 ⟨⟨_, b6⟩, rfl⟩
                clear z0 z1 c1 c2
                go_wp2
                go_roundw
                case rel => exact ⟨j + 1, by first | rfl | (congr 1; omega), by omega, ⟨below_step hbr.out b6⟩⟩
                case measure => simp [intOf]; omega
              · have k2 : (18 : Int) ≤ (j : Int) - 1 := by omega
                replace HB := below_step HB hbr.out
                replace hM := hMr
                replace hi := hir
                replace ht := ht.below hbr.out
                have hp := pop_b l lat
                have hp2 := refPop_b l lat
                have hpl := popQ_len l lat
                rcases hpq : popQ l lat with ⟨r1, r2, r3, r4, r5, r6, r7, r8, r9⟩
                rw [hpq] at hp hp2 hpl
                have hf := find_b l lat s
                have hf2 := refFind_b 200 l lat s (by omega) (by omega)
                rcases hfq : findQ l s with ⟨f1, f2, f3, f4, f5, f6, f7⟩
                rw [hfq] at hf hf2
                have hsame := same_f 200 r7 r8 (by have : r7.length ≤ l.length := hpl; omega) (by have : r7.length ≤ l.length := hpl; omega)
                have hem := empty_b l lat
                have hem2 := refEmpty_b l lat
                generalize (decide (l.length = 0) && !lat) = eb at hem hem2
                have hov := over_b 200 t l lat (by omega) (by omega) (by omega)
                have hov2 := refOver_b 7000 t l lat (by omega) (by omega) (by omega)
                have hss := sameS_f 200 (overQ t l) (by have := overQ_len l t; omega) (by have := overQ_len l t; omega)
                have HP := Aside0.mk hp
                have HP2 := Aside0.mk hp2
                have HF := Aside0.mk hf
                have HF2 := Aside0.mk hf2
                have HS := Aside0.mk hsame
                have HE := Aside0.mk hem
                have HE2 := Aside0.mk hem2
                have HV := Aside0.mk hov
                have HV2 := Aside0.mk hov2
                have HSS := Aside0.mk hss
                clear hp hp2 hpl hf hf2 hsame hem hem2 hov hov2 hss hpq hfq hbr hMr hir
                go_wp2_with fail
                refine (pop_im hi r7.length HP.out rfl).mono ?_
                rintro e w6 ⟨A7, c7, rfl, hi7, hb⟩
                replace HB := below_step HB hb
                replace hM := hM.below hb
                replace hi := hi.below hb
                replace ht := ht.below hb
                clear hb q0 q1
                go_upto_region 14 with (fail)
                generalize hg : World.alloc _ _ = w7
                obtain ⟨hB', hM', hb⟩ := Mem.new2 hg HB hM
                clear HB hM hg
                have HB := hB'
                have hM := hM'
                replace hi := hi.below hb
                replace ht := ht.below hb
                replace hi7 := hi7.below hb
                clear hB' hM' hb
                generalize w6.heap.size + 1 = p10 at hM ⊢
                generalize w6.heap.size = p9 at hM ⊢
                have q0 := hM.cell 2 0 rfl rfl
                have q1 := hM.cell 2 1 rfl rfl
                go_wp2_with fail
                refine (rpop_im hi r7.length HP2.out rfl).mono ?_
                rintro e w8 ⟨A8, c8, rfl, hi8, hb⟩
                replace HB := below_step HB hb
                replace hM := hM.below hb
                replace hi := hi.below hb
                replace ht := ht.below hb
                replace hi7 := hi7.below hb
                clear hb q0 q1
                go_upto_region 15 with (fail)
                generalize hg : World.alloc _ _ = w9
                obtain ⟨hB', hM', hb⟩ := Mem.new2 hg HB hM
                clear HB hM hg
                have HB := hB'
                have hM := hM'
                replace hi := hi.below hb
                replace ht := ht.below hb
                replace hi7 := hi7.below hb
                replace hi8 := hi8.below hb
                clear hB' hM' hb
                generalize w8.heap.size + 1 = p13 at hM ⊢
                generalize w8.heap.size = p12 at hM ⊢
                have q0 := hM.cell 4 0 rfl rfl
                have q1 := hM.cell 4 1 rfl rfl
                go_wp2_with fail
                refine (find_im hi HF.out).mono ?_
                rintro e w10 ⟨rfl, hb⟩
                replace HB := below_step HB hb
                replace hM := hM.below hb
                replace hi := hi.below hb
                replace ht := ht.below hb
                replace hi7 := hi7.below hb
                replace hi8 := hi8.below hb
                clear hb q0 q1
                go_upto_region 16 with (fail)
                generalize hg : World.alloc _ _ = w11
                obtain ⟨hB', hM', hb⟩ := Mem.new hg HB hM
                clear HB hM hg
                have HB := hB'
                have hM := hM'
                replace hi := hi.below hb
                replace ht := ht.below hb
                replace hi7 := hi7.below hb
                replace hi8 := hi8.below hb
                clear hB' hM' hb
                generalize w10.heap.size = p15 at hM ⊢
                have q0 := hM.cell 5 0 rfl rfl
                have q1 := hM.cell 5 1 rfl rfl
                go_wp2_with fail
                refine (rfind_im hi HF2.out).mono ?_
                rintro e w12 ⟨rfl, hb⟩
                replace HB := below_step HB hb
                replace hM := hM.below hb
                replace hi := hi.below hb
                replace ht := ht.below hb
                replace hi7 := hi7.below hb
                replace hi8 := hi8.below hb
                clear hb q0 q1
                go_upto_region 17 with (fail)
                generalize hg : World.alloc _ _ = ww
                obtain ⟨hB', hM', hb⟩ := Mem.new hg HB hM
                clear HB hM hg
                have HB := hB'
                have hM := hM'
                replace hi := hi.below hb
                replace ht := ht.below hb
                replace hi7 := hi7.below hb
                replace hi8 := hi8.below hb
                clear hB' hM' hb
                generalize w12.heap.size = p17 at hM ⊢
                have SS : ∀ w' : World, Below ww.heap.size ww w' → w'.cell? ⟨p9, 0, none⟩ = some (.string r1) ∧ w'.cell? ⟨p9, 1, none⟩ = some (.bool r2) ∧ w'.cell? ⟨p9, 2, none⟩ = some (.int .i64 r3) ∧ w'.cell? ⟨p9, 3, none⟩ = some (.int .i64 r4) ∧ w'.cell? ⟨p9, 4, none⟩ = some (.int .i64 r5) ∧ w'.cell? ⟨p9, 5, none⟩ = some (.string r6) ∧ w'.cell? ⟨p12, 0, none⟩ = some (.string r1) ∧ w'.cell? ⟨p12, 1, none⟩ = some (.bool r2) ∧ w'.cell? ⟨p12, 2, none⟩ = some (.int .i64 r3) ∧ w'.cell? ⟨p12, 3, none⟩ = some (.int .i64 r4) ∧ w'.cell? ⟨p12, 4, none⟩ = some (.int .i64 r5) ∧ w'.cell? ⟨p12, 5, none⟩ = some (.string r6) ∧ w'.cell? ⟨p10, 0, none⟩ = some (.slice A7 r7.length c7) ∧ w'.cell? ⟨p10, 1, none⟩ = some (.bool r8) ∧ w'.cell? ⟨p13, 0, none⟩ = some (.slice A8 r7.length c8) ∧ w'.cell? ⟨p13, 1, none⟩ = some (.bool r8) ∧ w'.cell? ⟨p15, 0, none⟩ = some (.string f1) ∧ w'.cell? ⟨p15, 1, none⟩ = some (.bool f2) ∧ w'.cell? ⟨p15, 2, none⟩ = some (.int .i64 f3) ∧ w'.cell? ⟨p15, 3, none⟩ = some (.int .i64 f4) ∧ w'.cell? ⟨p15, 4, none⟩ = some (.int .i64 f5) ∧ w'.cell? ⟨p15, 5, none⟩ = some (.string f6) ∧ w'.cell? ⟨p17, 0, none⟩ = some (.string f1) ∧ w'.cell? ⟨p17, 1, none⟩ = some (.bool f2) ∧ w'.cell? ⟨p17, 2, none⟩ = some (.int .i64 f3) ∧ w'.cell? ⟨p17, 3, none⟩ = some (.int .i64 f4) ∧ w'.cell? ⟨p17, 4, none⟩ = some (.int .i64 f5) ∧ w'.cell? ⟨p17, 5, none⟩ = some (.string f6) ∧ w'.cell? ⟨p, 0, none⟩ = some (.slice A0 l.length c0) ∧ w'.cell? ⟨p, 1, none⟩ = some (.bool lat) := fun w' hb => by
                  have hM := hM.below hb
                  exact ⟨hM.cell 5 0 rfl rfl, hM.cell 5 1 rfl rfl, hM.cell 5 2 rfl rfl, hM.cell 5 3 rfl rfl, hM.cell 5 4 rfl rfl, hM.cell 5 5 rfl rfl, hM.cell 3 0 rfl rfl, hM.cell 3 1 rfl rfl, hM.cell 3 2 rfl rfl, hM.cell 3 3 rfl rfl, hM.cell 3 4 rfl rfl, hM.cell 3 5 rfl rfl, hM.cell 4 0 rfl rfl, hM.cell 4 1 rfl rfl, hM.cell 2 0 rfl rfl, hM.cell 2 1 rfl rfl, hM.cell 1 0 rfl rfl, hM.cell 1 1 rfl rfl, hM.cell 1 2 rfl rfl, hM.cell 1 3 rfl rfl, hM.cell 1 4 rfl rfl, hM.cell 1 5 rfl rfl, hM.cell 0 0 rfl rfl, hM.cell 0 1 rfl rfl, hM.cell 0 2 rfl rfl, hM.cell 0 3 rfl rfl, hM.cell 0 4 rfl rfl, hM.cell 0 5 rfl rfl, hM.cell 6 0 rfl rfl, hM.cell 6 1 rfl rfl⟩
                clear hM
                go_wp2_with fail
                go_region_held3 (fun w' => w'.cell? ⟨p9, 0, none⟩ = some (.string r1) ∧ w'.cell? ⟨p9, 1, none⟩ = some (.bool r2) ∧ w'.cell? ⟨p9, 2, none⟩ = some (.int .i64 r3) ∧ w'.cell? ⟨p9, 3, none⟩ = some (.int .i64 r4) ∧ w'.cell? ⟨p9, 4, none⟩ = some (.int .i64 r5) ∧ w'.cell? ⟨p9, 5, none⟩ = some (.string r6) ∧ w'.cell? ⟨p12, 0, none⟩ = some (.string r1) ∧ w'.cell? ⟨p12, 1, none⟩ = some (.bool r2) ∧ w'.cell? ⟨p12, 2, none⟩ = some (.int .i64 r3) ∧ w'.cell? ⟨p12, 3, none⟩ = some (.int .i64 r4) ∧ w'.cell? ⟨p12, 4, none⟩ = some (.int .i64 r5) ∧ w'.cell? ⟨p12, 5, none⟩ = some (.string r6) ∧ w'.cell? ⟨p10, 0, none⟩ = some (.slice A7 r7.length c7) ∧ w'.cell? ⟨p10, 1, none⟩ = some (.bool r8) ∧ w'.cell? ⟨p13, 0, none⟩ = some (.slice A8 r7.length c8) ∧ w'.cell? ⟨p13, 1, none⟩ = some (.bool r8) ∧ w'.cell? ⟨p15, 0, none⟩ = some (.string f1) ∧ w'.cell? ⟨p15, 1, none⟩ = some (.bool f2) ∧ w'.cell? ⟨p15, 2, none⟩ = some (.int .i64 f3) ∧ w'.cell? ⟨p15, 3, none⟩ = some (.int .i64 f4) ∧ w'.cell? ⟨p15, 4, none⟩ = some (.int .i64 f5) ∧ w'.cell? ⟨p15, 5, none⟩ = some (.string f6) ∧ w'.cell? ⟨p17, 0, none⟩ = some (.string f1) ∧ w'.cell? ⟨p17, 1, none⟩ = some (.bool f2) ∧ w'.cell? ⟨p17, 2, none⟩ = some (.int .i64 f3) ∧ w'.cell? ⟨p17, 3, none⟩ = some (.int .i64 f4) ∧ w'.cell? ⟨p17, 4, none⟩ = some (.int .i64 f5) ∧ w'.cell? ⟨p17, 5, none⟩ = some (.string f6) ∧ w'.cell? ⟨p, 0, none⟩ = some (.slice A0 l.length c0) ∧ w'.cell? ⟨p, 1, none⟩ = some (.bool lat)) (exact SS _ (by repeat (first | assumption | apply below_alloc | apply below_drew1 | exact Below.refl _ _))) (first | (go_at_call 19; (with_reducible refine (samek_im (hi7.below ?hq) (hi8.below (by first | assumption | exact below_drew1 (Below.refl _ _))) HS.out).mono ?_); (all_goals first | (case hq => repeat (first | assumption | apply below_alloc | apply below_drew1 | exact Below.refl _ _)) | skip); rintro e x1 ⟨rfl, hb⟩; have hb1 := below_step (show Below ww.heap.size ww _ from (by repeat (first | assumption | apply below_alloc | apply below_drew1 | exact Below.refl _ _))) hb; (try replace hv4 := Im.below hv4 hb); clear hb) | (go_at_call 20; (with_reducible refine (empty_im (hi.below ?hq) HE.out).mono ?_); (all_goals first | (case hq => repeat (first | assumption | apply below_alloc | apply below_drew1 | exact Below.refl _ _)) | skip); rintro e x2 ⟨rfl, hb⟩; have hb2 := below_step (show Below ww.heap.size ww _ from (by repeat (first | assumption | apply below_alloc | apply below_drew1 | exact Below.refl _ _))) hb; (try replace hv4 := Im.below hv4 hb); clear hb) | (go_at_call 21; (with_reducible refine (rempty_im (hi.below ?hq) HE2.out).mono ?_); (all_goals first | (case hq => repeat (first | assumption | apply below_alloc | apply below_drew1 | exact Below.refl _ _)) | skip); rintro e x3 ⟨rfl, hb⟩; have hb3 := below_step (show Below ww.heap.size ww _ from (by repeat (first | assumption | apply below_alloc | apply below_drew1 | exact Below.refl _ _))) hb; (try replace hv4 := Im.below hv4 hb); clear hb) | (go_at_call 23; (with_reducible refine (overk_im (ht.below ?hq) (hi.below (by first | assumption | exact below_drew1 (Below.refl _ _))) HV.out).mono ?_); (all_goals first | (case hq => repeat (first | assumption | apply below_alloc | apply below_drew1 | exact Below.refl _ _)) | skip); rintro e x4 ⟨v4, rfl, hv4_, hb⟩; have hb4 := below_step (show Below ww.heap.size ww _ from (by repeat (first | assumption | apply below_alloc | apply below_drew1 | exact Below.refl _ _))) hb; (try replace hv4 := Im.below hv4 hb); have hv4 := hv4_; clear hv4_ hb) | (go_at_call 24; (with_reducible refine (rover_im (ht.below ?hq) (hi.below (by first | assumption | exact below_drew1 (Below.refl _ _))) HV2.out).mono ?_); (all_goals first | (case hq => repeat (first | assumption | apply below_alloc | apply below_drew1 | exact Below.refl _ _)) | skip); rintro e x5 ⟨v5, rfl, hv5, hb⟩; have hb5 := below_step (show Below ww.heap.size ww _ from (by repeat (first | assumption | apply below_alloc | apply below_drew1 | exact Below.refl _ _))) hb; (try replace hv4 := Im.below hv4 hb); clear hb) | (go_at_call 22; (with_reducible refine (sameS_im hv4 hv5 HSS.out).mono ?_); (all_goals first | (case hq => repeat (first | assumption | apply below_alloc | apply below_drew1 | exact Below.refl _ _)) | skip); rintro e x6 ⟨rfl, hb⟩; have hb6 := below_step (show Below ww.heap.size ww _ from (by repeat (first | assumption | apply below_alloc | apply below_drew1 | exact Below.refl _ _))) hb; (try replace hv4 := Im.below hv4 hb); clear hb) | (go_at_call 10; (with_reducible refine (live_walk _).mono ?_); (all_goals first | (case hq => repeat (first | assumption | apply below_alloc | apply below_drew1 | exact Below.refl _ _)) | skip); rintro e x7 ⟨rfl, hb⟩; have hb7 := below_step (show Below ww.heap.size ww _ from (by repeat (first | assumption | apply below_alloc | apply below_drew1 | exact Below.refl _ _))) hb; (try replace hv4 := Im.below hv4 hb); clear hb))
                go_wp2
                go_ret
                exact ⟨rfl, below_step HB hb7⟩
end Go.Proofs.Ythcmelchgnekpaa.XHand
