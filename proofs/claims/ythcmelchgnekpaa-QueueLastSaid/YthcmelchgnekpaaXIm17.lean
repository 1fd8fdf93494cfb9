-- Several texts in one (wip/tools/mergex.py).
import Derived.Test.YthcmelchgnekpaaPAx4
import Derived.Test.YthcmelchgnekpaaPAx9
import Derived.Test.YthcmelchgnekpaaPAx5
import Derived.Test.YthcmelchgnekpaaPAx6
import Derived.Test.YthcmelchgnekpaaXGen
import Derived.Test.YthcmelchgnekpaaPAx18
import Derived.Test.YthcmelchgnekpaaXLive17w
import Derived.Test.YthcmelchgnekpaaPAx13

/- Queues in plain lists: what the printed functions of queue, and of its reference, answer. -/
namespace Go.Proofs.Ythcmelchgnekpaa.XV17
open Go.RowKit Go.Proofs.Ythcmelchgnekpaa.PA Go.Proofs.YthcmelchgnekpaaW.PrintWords Go.Proofs.YthcmelchgnekpaaW.PrintLast Go.Proofs.Ythcmelchgnekpaa.XGen
open Go.Proofs.Ythcmelchgnekpaa.XPlace (idx is)
open Go.Proofs.Ythcmelchgnekpaa.XIdent (isB okAt)
open Go.Proofs.Ythcmelchgnekpaa.XMay (mayB numsB)
open Go.Proofs.Ythcmelchgnekpaa.XOdd (odd)
set_option linter.unusedVariables false
set_option linter.unusedSimpArgs false
abbrev Ch := S33
theorem is_iff {n : ByteArray} {x : Ch} : is n x = true ↔ x.f0 = n := by simp [is, toList_inj]
theorem idx_no (p : Ch → Bool) : ∀ (l : List Ch) (i : Int), 0 ≤ i → (idx p l i = -1 ∧ ∀ x ∈ l, p x = false) ∨ ∃ (k : Nat) (h : k < l.length), idx p l i = i + k ∧ (∀ (j : Nat) (hj : j < l.length), j < k → p l[j] = false) ∧ p l[k] = true
  | [], i, _ => .inl ⟨rfl, fun x hx => by cases hx⟩
  | x :: t, i, h => by
    rw [idx]
    by_cases c : p x = true
    · rw [if_pos c]
      exact .inr ⟨0, by simp, by simp, fun j _ hj => absurd hj (Nat.not_lt_zero j), c⟩
    · rw [if_neg c]
      rcases idx_no p t (i + 1) (by omega) with ⟨h1, h2⟩ | ⟨k, h1, h2, h3, h5⟩
      · refine .inl ⟨h1, fun y hy => ?_⟩
        rcases List.mem_cons.1 hy with rfl | hy
        · exact Bool.eq_false_iff.mpr c
        · exact h2 y hy
      · refine .inr ⟨k + 1, by simp; omega, by rw [h2]; simp; omega, fun j hj hjk => ?_, by simpa using h5⟩
        cases j with
        | zero => simpa using c
        | succ j => simp only [List.getElem_cons_succ]; exact h3 j _ (by omega)
theorem idx_first (p : Ch → Bool) (l : List Ch) (k : Nat) (h : k < l.length) (h1 : ∀ (j : Nat) (hj : j < l.length), j < k → p l[j] = false) (h2 : p l[k] = true) : idx p l 0 = (k : Int) := by
  rcases idx_no p l 0 (by omega) with ⟨_, h4⟩ | ⟨m, hm, h3, h4, h5⟩
  · rw [h4 _ (List.getElem_mem h)] at h2; cases h2
  · rw [h3]
    rcases Nat.lt_trichotomy m k with hlt | rfl | hlt
    · rw [h1 m hm hlt] at h5; cases h5
    · simp
    · rw [h4 k h hlt] at h2; cases h2
theorem idx_none (p : Ch → Bool) (l : List Ch) (h : ∀ x ∈ l, p x = false) : idx p l 0 = -1 := by
  rcases idx_no p l 0 (by omega) with ⟨h3, _⟩ | ⟨m, hm, h3, h4, h5⟩
  · exact h3
  · rw [h _ (List.getElem_mem hm)] at h5; cases h5
theorem rd_at (l : List Ch) (j : Nat) (h : j < l.length) : rd_T33 l (j : Int) = l[j] := by
  unfold rd_T33
  rw [Int.toNat_natCast, getD_lt l _ j h]
/-! ## places -/
theorem place_f (l : List Ch) (n : ByteArray) : api_Change_string.f l n = some (idx (is n) l 0, decide (0 ≤ idx (is n) l 0)) := rfl
theorem refPlaceL (l : List Ch) (n : ByteArray) (b : Bool) (hl : l.length ≤ 1000000) : ∀ (d k j : Nat), j + d = l.length → d < k → rollcallref17_place.l0 k n (j : Int) l b = some (idx (is n) (l.drop j) j) := by
  intro d
  induction d with
  | zero =>
    intro k j hj hk
    obtain ⟨k, rfl⟩ : ∃ m, k = m + 1 := ⟨k - 1, by omega⟩
    rw [rollcallref17_place.l0, if_neg (by omega), List.drop_eq_nil_of_le (by omega)]
    rfl
  | succ d ih =>
    intro k j hj hk
    obtain ⟨k, rfl⟩ : ∃ m, k = m + 1 := ⟨k - 1, by omega⟩
    rw [rollcallref17_place.l0, if_pos (by omega), if_pos (by omega), rd_at l j (by omega), drop_get l j (by omega), wrap_succ j (by omega), ih k (j + 1) (by omega) (by omega), idx]
    by_cases c : l[j].f0.toList = n.toList
    · rw [if_pos c, if_pos (by simp [is, c])]
    · rw [if_neg c, if_neg (by simp [is, c])]
      rfl
theorem refPlace_f (k : Nat) (l : List Ch) (n : ByteArray) (b : Bool) (hl : l.length ≤ 1000000) (hk : l.length < k) : rollcallref17_place.f k l b n = some (idx (is n) l 0) := refPlaceL l n b hl l.length k 0 (by omega) hk
/-! ## what may be -/
def z4 (x : Ch) : Bool := x.f2.f0 == 0 && (x.f2.f1 == 0 && (x.f2.f2 == 0 && (x.f2.f3.toList == ([] : List UInt8))))
def oneB (x : Ch) : Bool := isB x.f0 && if x.f1 = true then mayB x.f2.f0 x.f2.f1 x.f2.f2 x.f2.f3 else z4 x
theorem one_f (x : Ch) (h : x.f0.size ≤ 9223372036854775807) : queue_One.f x.f0 x.f1 x.f2.f0 x.f2.f1 x.f2.f2 x.f2.f3 = some (oneB x) := by
  unfold queue_One.f oneB
  have e : ident_Is.f x.f0 = some (isB x.f0) := by show XIdent.ident_Is.f x.f0 = _; unfold XIdent.ident_Is.f; rw [if_pos h]
  have e2 : value_May.f x.f2.f0 x.f2.f1 x.f2.f2 x.f2.f3 = some (mayB x.f2.f0 x.f2.f1 x.f2.f2 x.f2.f3) := rfl
  rw [e, e2]
  simp only [Option.bind_some]
  cases x.f1 <;> cases isB x.f0 <;> rfl
theorem refMayL (a0 a1 a2 : Int) (s : ByteArray) (hs : s.size ≤ 1000) : ∀ (d k j : Nat), j + d = s.size → d < k → rollcallref04_May.l0 k (j : Int) a0 a1 a2 s = some (!(((bytesOf s).drop j).any odd)) := by
  intro d
  induction d with
  | zero =>
    intro k j hj hk
    obtain ⟨k, rfl⟩ : ∃ m, k = m + 1 := ⟨k - 1, by omega⟩
    rw [rollcallref04_May.l0, if_neg (by omega), List.drop_eq_nil_of_le (by rw [bytesOf_length]; omega)]
    rfl
  | succ d ih =>
    intro k j hj hk
    obtain ⟨k, rfl⟩ : ∃ m, k = m + 1 := ⟨k - 1, by omega⟩
    have hb : (bytesOf s).drop j = bt s (j : Int) :: (bytesOf s).drop (j + 1) := by
      rw [List.drop_eq_getElem_cons (by rw [bytesOf_length]; omega)]
      congr 1
      unfold bytesOf bt
      rw [List.getElem_map, dif_pos (by rw [Int.toNat_natCast]; omega)]
      rfl
    rw [rollcallref04_May.l0, if_pos (by omega), if_pos (by omega), hb, List.any_cons]
    unfold odd
    by_cases c1 : bt s (j : Int) < 32
    · rw [if_pos c1]; simp [c1]
    · rw [if_neg c1]
      by_cases c2 : bt s (j : Int) > 126
      · rw [if_pos c2]; simp [c2]
      · rw [if_neg c2, wrap_succ j (by omega), ih k (j + 1) (by omega) (by omega)]
        have e : (decide (bt s (j : Int) < 32) || decide (126 < bt s (j : Int))) = false := by simp; omega
        rw [e]
        rfl
theorem may_off {a0 a1 a2 : Int} {a3 : ByteArray} (h : ¬ (1 ≤ a0 ∧ a0 ≤ 4 ∧ -128 ≤ a1 ∧ a1 ≤ 127 ∧ 0 ≤ a2 ∧ a2 ≤ 1099511627776 ∧ a3.size ≤ 32)) : mayB a0 a1 a2 a3 = false := by
  unfold mayB
  rw [if_neg (show ¬ numsB a0 a1 a2 a3 from h)]
theorem may_on {a0 a1 a2 : Int} {a3 : ByteArray} (h : 1 ≤ a0 ∧ a0 ≤ 4 ∧ -128 ≤ a1 ∧ a1 ≤ 127 ∧ 0 ≤ a2 ∧ a2 ≤ 1099511627776 ∧ a3.size ≤ 32) : mayB a0 a1 a2 a3 = !((bytesOf a3).any odd) := by
  unfold mayB
  rw [if_pos (show numsB a0 a1 a2 a3 from h)]
theorem refMay_f (k : Nat) (a0 a1 a2 : Int) (a3 : ByteArray) (hk : 40 ≤ k) : rollcallref04_May.f k a0 a1 a2 a3 = some (mayB a0 a1 a2 a3) := by
  obtain ⟨k, rfl⟩ : ∃ m, k = m + 1 := ⟨k - 1, by omega⟩
  unfold rollcallref04_May.f
  have ht : rollcallref04_May.j0 (k + 1) true a0 a1 a2 a3 = some false := by rw [rollcallref04_May.j0, if_pos rfl]
  by_cases c : 1 ≤ a0 ∧ a0 ≤ 4 ∧ -128 ≤ a1 ∧ a1 ≤ 127 ∧ 0 ≤ a2 ∧ a2 ≤ 1099511627776 ∧ a3.size ≤ 32
  · rw [may_on c, if_neg (by omega), if_neg (by omega), if_neg (by omega), if_neg (by omega), if_neg (by omega), if_neg (by omega), rollcallref04_May.j0, if_neg (by simp; omega)]
    exact refMayL a0 a1 a2 a3 (by omega) a3.size k 0 (by omega) (by omega)
  · rw [may_off c, ht]
    by_cases h1 : a0 < 1
    · rw [if_pos h1]
    rw [if_neg h1]
    by_cases h2 : a0 > 4
    · rw [if_pos h2]
    rw [if_neg h2]
    by_cases h3 : a1 < -128
    · rw [if_pos h3]
    rw [if_neg h3]
    by_cases h4 : a1 > 127
    · rw [if_pos h4]
    rw [if_neg h4]
    by_cases h5 : a2 < 0
    · rw [if_pos h5]
    rw [if_neg h5]
    by_cases h6 : a2 > 1099511627776
    · rw [if_pos h6]
    rw [if_neg h6]
    have e : decide ((a3.size : Int) > 32) = true := by simp; omega
    rw [e, ht]
def okR (s : ByteArray) (j : Nat) : Prop := (97 ≤ bt s j ∧ bt s j ≤ 122) ∨ (48 ≤ bt s j ∧ bt s j ≤ 57) ∨ bt s j = 45
instance (s : ByteArray) (j : Nat) : Decidable (okR s j) := by unfold okR; infer_instance
theorem refIsL (s : ByteArray) (hs : s.size ≤ 1000) : ∀ (d k j : Nat), j + d = s.size → d < k → rollcallref03_Is.l0 k s (j : Int) = some ((List.range' j d).all fun i => decide (okR s i)) := by
  intro d
  induction d with
  | zero =>
    intro k j hj hk
    obtain ⟨k, rfl⟩ : ∃ m, k = m + 1 := ⟨k - 1, by omega⟩
    rw [rollcallref03_Is.l0, if_neg (by omega)]
    rfl
  | succ d ih =>
    intro k j hj hk
    obtain ⟨k, rfl⟩ : ∃ m, k = m + 1 := ⟨k - 1, by omega⟩
    rw [rollcallref03_Is.l0, if_pos (by omega), if_pos (by omega), wrap_succ j (by omega), ih k (j + 1) (by omega) (by omega), List.range'_succ, List.all_cons]
    by_cases c : okR s j
    · have e : decide (okR s j) = true := by simp [c]
      rw [e, Bool.true_and]
      unfold okR at c
      repeat' split
      all_goals first | rfl | (exfalso; omega)
    · have e : decide (okR s j) = false := by simp [c]
      rw [e, Bool.false_and]
      unfold okR at c
      repeat' split
      all_goals first | rfl | (exfalso; omega)
theorem refIs_f (k : Nat) (s : ByteArray) (hk : 30 ≤ k) : rollcallref03_Is.f k s = some (isB s) := by
  obtain ⟨k, rfl⟩ : ∃ m, k = m + 1 := ⟨k - 1, by omega⟩
  unfold rollcallref03_Is.f isB
  have ht : rollcallref03_Is.j0 (k + 1) s true = some false := by rw [rollcallref03_Is.j0, if_pos rfl]
  by_cases h1 : (s.size : Int) < 1
  · rw [if_pos h1, ht]
    have : decide (0 < s.size ∧ s.size ≤ 16) = false := by simp; omega
    rw [this, Bool.false_and]
  rw [if_neg h1]
  by_cases h2 : (s.size : Int) > 16
  · rw [if_pos h2, ht]
    have : decide (0 < s.size ∧ s.size ≤ 16) = false := by simp; omega
    rw [this, Bool.false_and]
  rw [if_neg h2, if_pos (by omega)]
  have e1 : decide (0 < s.size ∧ s.size ≤ 16) = true := by simp; omega
  rw [e1, Bool.true_and]
  have e0 : ∀ b : Bool, b = decide (okAt s 0) → (List.range s.size).all (fun j => decide (okAt s j)) = (b && (List.range' 0 s.size).all fun i => decide (okR s i)) := by
    intro b hb
    rw [hb]
    obtain ⟨m, hm⟩ : ∃ m, s.size = m + 1 := ⟨s.size - 1, by omega⟩
    rw [hm, List.range_eq_range', List.range'_succ, List.all_cons, List.all_cons]
    have e2 : (List.range' (0 + 1) m).all (fun j => decide (okAt s j)) = (List.range' (0 + 1) m).all (fun i => decide (okR s i)) := by
      rw [Bool.eq_iff_iff, List.all_eq_true, List.all_eq_true]
      constructor
      · intro h i hi
        have := h i hi
        have hi' := (List.mem_range'_1.1 hi).1
        simp only [decide_eq_true_eq] at this ⊢
        unfold okAt at this
        unfold okR
        omega
      · intro h i hi
        have := h i hi
        have hi' := (List.mem_range'_1.1 hi).1
        simp only [decide_eq_true_eq] at this ⊢
        unfold okR at this
        unfold okAt
        omega
    rw [e2]
    by_cases c : okAt s 0
    · have : okR s 0 := by unfold okAt at c; unfold okR; omega
      simp [c, this]
    · simp [c]
  by_cases h3 : bt s 0 < 97
  · rw [if_pos h3, ht, e0 false (by unfold okAt; simp; omega)]
    rfl
  rw [if_neg h3]
  by_cases h4 : bt s 0 > 122
  · have e : decide (bt s 0 > 122) = true := by simp; omega
    rw [e, ht, e0 false (by unfold okAt; simp; omega)]
    rfl
  · have e : decide (bt s 0 > 122) = false := by simp; omega
    rw [e, rollcallref03_Is.j0, if_neg (by simp), e0 true (by unfold okAt; simp; omega), Bool.true_and]
    exact refIsL s (by omega) s.size k 0 (by omega) (by omega)
theorem refOne_f (k : Nat) (x : Ch) (hk : 40 ≤ k) : rollcallref17_One.f k x.f0 x.f1 x.f2.f0 x.f2.f1 x.f2.f2 x.f2.f3 = some (oneB x) := by
  unfold rollcallref17_One.f oneB
  rw [refIs_f k _ (by omega), refMay_f k _ _ _ _ hk]
  simp only [Option.bind_some]
  cases x.f1 <;> cases isB x.f0 <;> rfl
/-- No two of one contact. -/
def Apart (l : List Ch) : Prop := ∀ (i j : Nat) (hi : i < l.length) (hj : j < l.length), j < i → l[j].f0 ≠ l[i].f0
theorem place_own {l : List Ch} (h : Apart l) (i : Nat) (hi : i < l.length) : idx (is l[i].f0) l 0 = (i : Int) := by
  refine idx_first _ l i hi (fun j hj hji => ?_) (is_iff.2 rfl)
  exact Bool.eq_false_iff.mpr (fun e => h i j hi hj hji (is_iff.1 e))
theorem mayL (l : List Ch) (lat : Bool) (room : Int) (hl : l.length ≤ 1000000) (hs : ∀ x ∈ l, x.f0.size ≤ 9223372036854775807) (h1 : (l.length : Int) ≤ room) (h2 : lat = true → l = []) (h3 : ∀ x ∈ l, oneB x = true) (h4 : Apart l) :
    ∀ (d k j : Nat), j + d = l.length → d < k → queue_May.l0 k room l (l.length : Int) (j : Int) l lat = some true := by
  intro d
  induction d with
  | zero =>
    intro k j hj hk
    obtain ⟨k, rfl⟩ : ∃ m, k = m + 1 := ⟨k - 1, by omega⟩
    rw [queue_May.l0, if_neg (by omega), if_pos h1]
    cases lat with
    | true => rw [if_pos rfl, h2 rfl]; rfl
    | false => rw [if_neg (by simp)]
  | succ d ih =>
    intro k j hj hk
    obtain ⟨k, rfl⟩ : ∃ m, k = m + 1 := ⟨k - 1, by omega⟩
    have hm : l[j] ∈ l := List.getElem_mem _
    rw [queue_May.l0, if_pos (by omega), if_pos (by omega), if_pos (by omega), rd_at l j (by omega), place_f, place_own h4 j (by omega)]
    simp only [Option.bind_some, if_true]
    rw [one_f l[j] (hs _ hm), h3 _ hm]
    simp only [Option.bind_some, if_true]
    rw [wrap_succ j (by omega)]
    exact ih k (j + 1) (by omega) (by omega)
theorem may_f (k : Nat) (l : List Ch) (lat : Bool) (room : Int) (hl : l.length ≤ 1000000) (hs : ∀ x ∈ l, x.f0.size ≤ 9223372036854775807) (h1 : (l.length : Int) ≤ room) (h2 : lat = true → l = []) (h3 : ∀ x ∈ l, oneB x = true) (h4 : Apart l) (hk : l.length < k) : queue_May.f k l lat room = some true :=
  mayL l lat room hl hs h1 h2 h3 h4 l.length k 0 (by omega) hk
theorem refMayLL (l : List Ch) (lat : Bool) (hl : l.length ≤ 1000000) : ∀ (d k j : Nat), j + d = l.length → d + l.length + 100 < k → ∃ b, rollcallref17_May.l0 k (j : Int) l lat = some b ∧ (b = true → ∀ (i : Nat) (hi : i < l.length), j ≤ i → oneB l[i] = true ∧ idx (is l[i].f0) l 0 = (i : Int)) := by
  intro d
  induction d with
  | zero =>
    intro k j hj hk
    obtain ⟨k, rfl⟩ : ∃ m, k = m + 1 := ⟨k - 1, by omega⟩
    rw [rollcallref17_May.l0, if_neg (by omega)]
    exact ⟨_, rfl, fun _ i hi hij => by omega⟩
  | succ d ih =>
    intro k j hj hk
    obtain ⟨k, rfl⟩ : ∃ m, k = m + 1 := ⟨k - 1, by omega⟩
    rw [rollcallref17_May.l0, if_pos (by omega), if_pos (by omega), rd_at l j (by omega), refOne_f k l[j] (by omega), refPlace_f k l _ lat hl (by omega), wrap_succ j (by omega)]
    simp only [Option.bind_some]
    by_cases c : oneB l[j] = true
    · rw [if_pos c]
      by_cases c2 : idx (is l[j].f0) l 0 = (j : Int)
      · rw [if_pos c2]
        obtain ⟨b, hb, h⟩ := ih k (j + 1) (by omega) (by omega)
        refine ⟨b, hb, fun e i hi hij => ?_⟩
        rcases Nat.lt_or_ge j i with hlt | hge
        · exact h e i hi hlt
        · obtain rfl : i = j := by omega
          exact ⟨c, c2⟩
      · rw [if_neg c2]
        exact ⟨_, rfl, fun e => by cases e⟩
    · rw [if_neg c]
      exact ⟨_, rfl, fun e => by cases e⟩
theorem refMayQ_f (k : Nat) (l : List Ch) (lat : Bool) (room : Int) (hl : l.length ≤ 1000000) (hk : 2 * l.length + 110 < k) : ∃ b, rollcallref17_May.f k l lat room = some b ∧ (b = true → (l.length : Int) ≤ room ∧ (lat = true → l = []) ∧ (∀ x ∈ l, oneB x = true) ∧ Apart l) := by
  obtain ⟨k, rfl⟩ : ∃ m, k = m + 1 := ⟨k - 1, by omega⟩
  have ht : rollcallref17_May.j0 (k + 1) true l lat = some false := by rw [rollcallref17_May.j0, if_pos rfl]
  unfold rollcallref17_May.f
  by_cases h1 : (l.length : Int) > room
  · rw [if_pos h1, ht]; exact ⟨_, rfl, fun e => by cases e⟩
  rw [if_neg h1]
  have key : ∀ q : Bool, (q = false → lat = true → l = []) → ∃ b, rollcallref17_May.j0 (k + 1) q l lat = some b ∧ (b = true → (l.length : Int) ≤ room ∧ (lat = true → l = []) ∧ (∀ x ∈ l, oneB x = true) ∧ Apart l) := by
    intro q hq
    cases q with
    | true => rw [ht]; exact ⟨_, rfl, fun e => by cases e⟩
    | false =>
      rw [rollcallref17_May.j0, if_neg (by simp)]
      obtain ⟨b, hb, h⟩ := refMayLL l lat hl l.length k 0 (by omega) (by omega)
      refine ⟨b, hb, fun e => ⟨by omega, hq rfl, fun x hx => ?_, fun i j hi hj hji he => ?_⟩⟩
      · obtain ⟨i, hi, rfl⟩ := List.getElem_of_mem hx
        exact (h e i hi (Nat.zero_le _)).1
      · have h5 := (h e i hi (Nat.zero_le _)).2
        rcases idx_no (is l[i].f0) l 0 (by omega) with ⟨h6, _⟩ | ⟨m, hm, h6, h7, _⟩
        · omega
        · obtain rfl : m = i := by omega
          have := h7 j hj hji
          rw [is_iff.2 he] at this
          cases this
  cases lat with
  | true =>
    rw [if_pos rfl]
    refine key _ (fun h _ => ?_)
    simp only [decide_eq_false_iff_not] at h
    exact List.length_eq_zero_iff.1 (by omega)
  | false =>
    rw [if_neg (by simp)]
    exact key false (fun _ h => by cases h)
/-! ## pushes -/
def PU (l : List Ch) (lat : Bool) (c : Ch) (room : Int) : List Ch × Bool :=
  if lat = true then (l, lat) else if 0 ≤ idx (is c.f0) l 0 then (l.set (idx (is c.f0) l 0).toNat c, false) else if (l.length : Int) < room then (l ++ [c], false) else ([], true)
theorem idx_lt (p : Ch → Bool) (l : List Ch) : idx p l 0 < (l.length : Int) := by
  rcases idx_no p l 0 (by omega) with ⟨h, _⟩ | ⟨m, hm, h, _⟩
  · rw [h]; omega
  · rw [h]; omega
theorem push_f (l : List Ch) (lat : Bool) (c : Ch) (room : Int) (hl : l.length ≤ 1000000) : queue_Push.f l lat c.f0 c.f1 c.f2.f0 c.f2.f1 c.f2.f2 c.f2.f3 room = some (PU l lat c room) := by
  unfold queue_Push.f PU
  cases lat with
  | true => rw [if_pos rfl, if_pos rfl]
  | false =>
    have e1 : api_Change_39.f l = some l := by
      show XCloneChg.slices_Clone.f l = _
      unfold XCloneChg.slices_Clone.f
      rw [if_pos (by omega)]
    have e2 : api_Change_40.f [l, [c]] = some (l ++ [c]) := by
      show XConcatChg.slices_Concat.f [l, [c]] = _
      unfold XConcatChg.slices_Concat.f
      rw [if_pos (by simp; omega)]
      simp
    have e3 : (⟨c.f0, c.f1, (⟨c.f2.f0, c.f2.f1, c.f2.f2, c.f2.f3⟩ : S31)⟩ : Ch) = c := rfl
    simp only [Bool.false_eq_true, if_false, place_f, e1, e3, Option.bind_some, decide_eq_true_eq]
    by_cases c1 : 0 ≤ idx (is c.f0) l 0
    · rw [if_pos c1, if_pos c1, if_pos c1, if_pos (idx_lt _ l)]
    · rw [if_neg c1, if_neg c1]
      by_cases c2 : (l.length : Int) < room
      · rw [if_pos c2, if_pos c2, e2]
        rfl
      · rw [if_neg c2, if_neg c2]
/-! ## the same -/
theorem sameL (l : List Ch) (hl : l.length ≤ 1000000) : ∀ (d k j : Nat), j + d = l.length → d < k → rollcallref05_SameChanges.l0 k l l (j : Int) = some true := by
  intro d
  induction d with
  | zero =>
    intro k j hj hk
    obtain ⟨k, rfl⟩ : ∃ m, k = m + 1 := ⟨k - 1, by omega⟩
    rw [rollcallref05_SameChanges.l0, if_neg (by omega)]
  | succ d ih =>
    intro k j hj hk
    obtain ⟨k, rfl⟩ : ∃ m, k = m + 1 := ⟨k - 1, by omega⟩
    rw [rollcallref05_SameChanges.l0, if_pos (by omega), if_pos (by omega), if_pos (by omega), if_neg (by simp), wrap_succ j (by omega)]
    exact ih k (j + 1) (by omega) (by omega)
theorem same_f (k : Nat) (l : List Ch) (b : Bool) (hl : l.length ≤ 1000000) (hk : l.length < k) : rollcallref17_Same.f k l b l b = some true := by
  unfold rollcallref17_Same.f rollcallref05_SameChanges.f
  have h0 := sameL l hl l.length k 0 (by omega) hk
  rw [Int.natCast_zero] at h0
  rw [if_pos (by simp), if_pos rfl, h0]
  rfl
theorem PU_len (l : List Ch) (lat : Bool) (c : Ch) (room : Int) : (PU l lat c room).1.length ≤ l.length + 1 := by
  unfold PU
  split
  · simp
  · split
    · simp
    · split <;> simp
theorem changesL (l : List Ch) (hl : l.length ≤ 1000000) : ∀ (d k j : Nat), j + d = l.length → d < k → ∃ b, rollcallref17_Changes.l0 k l (j : Int) = some b := by
  intro d
  induction d with
  | zero =>
    intro k j hj hk
    obtain ⟨k, rfl⟩ : ∃ m, k = m + 1 := ⟨k - 1, by omega⟩
    rw [rollcallref17_Changes.l0, if_neg (by omega)]
    exact ⟨_, rfl⟩
  | succ d ih =>
    intro k j hj hk
    obtain ⟨k, rfl⟩ : ∃ m, k = m + 1 := ⟨k - 1, by omega⟩
    rw [rollcallref17_Changes.l0, if_pos (by omega), if_pos (by omega), wrap_succ j (by omega)]
    split
    · exact ⟨_, rfl⟩
    · split
      · exact ⟨_, rfl⟩
      · exact ih k (j + 1) (by omega) (by omega)
theorem changes_f (k : Nat) (l : List Ch) (most : Int) (hm : most ≤ 1000000) (hk : most.toNat < k) : ∃ b, rollcallref17_Changes.f k l most = some b ∧ (b = true → (l.length : Int) ≤ most) := by
  unfold rollcallref17_Changes.f
  by_cases c : (l.length : Int) > most
  · rw [if_pos c]
    exact ⟨_, rfl, fun h => by cases h⟩
  · rw [if_neg c]
    obtain ⟨b, hb⟩ := changesL l (by omega) l.length k 0 (by omega) (by omega)
    exact ⟨b, hb, fun _ => by omega⟩
theorem few_f (k : Nat) (l : List Ch) (b : Bool) (hk : 60 ≤ k) : ∃ q, rollcallref17_Few.f k l b = some q ∧ (q = true → l.length ≤ 30) := by
  unfold rollcallref17_Few.f
  obtain ⟨q, hq, h⟩ := changes_f k l 30 (by omega) (by omega)
  rw [hq]
  exact ⟨q, rfl, fun e => by have := h e; omega⟩
theorem live_100 : rollcalllaw17_live.f 100 = some true := by kernel_rfl
theorem live_f (k : Nat) (hk : 100 ≤ k) : rollcalllaw17_live.f k = some true := at_rounds rollcalllaw17_live.mono hk live_100
end Go.Proofs.Ythcmelchgnekpaa.XV17
/- Queues over tables, in plain lists: which queues may be; what is set over a table. -/
namespace Go.Proofs.Ythcmelchgnekpaa.XV17
open Go.RowKit Go.Proofs.Ythcmelchgnekpaa.PA Go.Proofs.YthcmelchgnekpaaW.PrintWords Go.Proofs.YthcmelchgnekpaaW.PrintLast Go.Proofs.Ythcmelchgnekpaa.XGen
open Go.Proofs.Ythcmelchgnekpaa.XPlace (idx is)
open Go.Proofs.Ythcmelchgnekpaa.XSet (atL setL)
open Go.Proofs.Ythcmelchgnekpaa.XIns (insL insL_len)
open Go.Proofs.Ythcmelchgnekpaa.XLess (lessB)
set_option linter.unusedVariables false
set_option linter.unusedSimpArgs false
abbrev Se := S52
def nth (l : List Ch) (j : Nat) : Ch := l.getD j z33
theorem nth_get (l : List Ch) (j : Nat) (h : j < l.length) : nth l j = l[j] := getD_lt l _ j h
def allO (l : List Ch) : Nat → Nat → Bool
  | 0, _ => true
  | d + 1, j => (decide (idx (is (nth l j).f0) l 0 = (j : Int)) && oneB (nth l j)) && allO l d (j + 1)
def mayQ (l : List Ch) (lat : Bool) (room : Int) : Bool := allO l l.length 0 && (decide ((l.length : Int) ≤ room) && (!lat || decide (l.length = 0)))
theorem mayLB (l : List Ch) (lat : Bool) (room : Int) (hl : l.length ≤ 1000000) (hs : ∀ x ∈ l, x.f0.size ≤ 9223372036854775807) : ∀ (d k j : Nat), j + d = l.length → d < k →
    queue_May.l0 k room l (l.length : Int) (j : Int) l lat = some (allO l d j && (decide ((l.length : Int) ≤ room) && (!lat || decide (l.length = 0)))) := by
  intro d
  induction d with
  | zero =>
    intro k j hj hk
    obtain ⟨k, rfl⟩ : ∃ m, k = m + 1 := ⟨k - 1, by omega⟩
    rw [queue_May.l0, if_neg (by omega)]
    by_cases c : (l.length : Int) ≤ room
    · rw [if_pos c]
      cases lat with
      | true =>
        rw [if_pos rfl]
        simp only [allO, Bool.true_and, decide_eq_true c, Bool.not_true, Bool.false_or]
        congr 1
        by_cases e : l.length = 0
        · rw [decide_eq_true e, e]; rfl
        · rw [decide_eq_false e]; simpa using e
      | false => rw [if_neg (by simp)]; simp [allO, c]
    · rw [if_neg c]; simp [c]
  | succ d ih =>
    intro k j hj hk
    obtain ⟨k, rfl⟩ : ∃ m, k = m + 1 := ⟨k - 1, by omega⟩
    have hm : l[j] ∈ l := List.getElem_mem _
    rw [queue_May.l0, if_pos (by omega), if_pos (by omega), if_pos (by omega), rd_at l j (by omega), place_f]
    simp only [Option.bind_some]
    rw [allO, nth_get l j (by omega)]
    by_cases c : idx (is l[j].f0) l 0 = (j : Int)
    · rw [if_pos c, one_f l[j] (hs _ hm), decide_eq_true c]
      simp only [Option.bind_some, Bool.true_and]
      cases ho : oneB l[j] with
      | true => rw [if_pos rfl, wrap_succ j (by omega), ih k (j + 1) (by omega) (by omega), Bool.true_and]
      | false => rw [if_neg (by simp), Bool.false_and, Bool.false_and]
    · rw [if_neg c, decide_eq_false c, Bool.false_and, Bool.false_and, Bool.false_and]
theorem may_b (k : Nat) (l : List Ch) (lat : Bool) (room : Int) (hl : l.length ≤ 1000000) (hs : ∀ x ∈ l, x.f0.size ≤ 9223372036854775807) (hk : l.length < k) : queue_May.f k l lat room = some (mayQ l lat room) := mayLB l lat room hl hs l.length k 0 (by omega) hk
theorem refMayLB (l : List Ch) (lat : Bool) (hl : l.length ≤ 1000000) : ∀ (d k j : Nat), j + d = l.length → d + l.length + 100 < k → rollcallref17_May.l0 k (j : Int) l lat = some (allO l d j) := by
  intro d
  induction d with
  | zero =>
    intro k j hj hk
    obtain ⟨k, rfl⟩ : ∃ m, k = m + 1 := ⟨k - 1, by omega⟩
    rw [rollcallref17_May.l0, if_neg (by omega)]
    rfl
  | succ d ih =>
    intro k j hj hk
    obtain ⟨k, rfl⟩ : ∃ m, k = m + 1 := ⟨k - 1, by omega⟩
    rw [rollcallref17_May.l0, if_pos (by omega), if_pos (by omega), rd_at l j (by omega), refOne_f k l[j] (by omega)]
    simp only [Option.bind_some]
    rw [allO, nth_get l j (by omega)]
    cases ho : oneB l[j] with
    | true =>
      rw [if_pos rfl, refPlace_f k l _ _ hl (by omega)]
      simp only [Option.bind_some]
      by_cases c : idx (is l[j].f0) l 0 = (j : Int)
      · rw [if_pos c, wrap_succ j (by omega), ih k (j + 1) (by omega) (by omega), decide_eq_true c]
        simp
      · rw [if_neg c, decide_eq_false c]
        simp
    | false => rw [if_neg (by simp)]; simp
theorem refMay_b (k : Nat) (l : List Ch) (lat : Bool) (room : Int) (hl : l.length ≤ 1000000) (hk : 2 * l.length + 110 < k) : rollcallref17_May.f k l lat room = some (mayQ l lat room) := by
  have hj : ∀ b, rollcallref17_May.j0 k b l lat = some (!b && allO l l.length 0) := fun b => by
    obtain ⟨k, rfl⟩ : ∃ m, k = m + 1 := ⟨k - 1, by omega⟩
    rw [rollcallref17_May.j0]
    cases b with
    | true => rw [if_pos rfl]; simp
    | false => rw [if_neg (by simp)]; rw [show (0 : Int) = ((0 : Nat) : Int) from rfl, refMayLB l lat hl l.length k 0 (by omega) (by omega)]; simp
  unfold rollcallref17_May.f mayQ
  rw [hj, hj, hj]
  by_cases c : (l.length : Int) > room
  · rw [if_pos c, decide_eq_false (by omega)]; simp
  · rw [if_neg c, decide_eq_true (show (l.length : Int) ≤ room by omega)]
    cases lat with
    | true =>
      rw [if_pos rfl]
      by_cases e : l.length = 0
      · rw [decide_eq_true e, decide_eq_false (by omega)]; simp
      · rw [decide_eq_false e, decide_eq_true (by omega)]; simp
    | false => rw [if_neg (by simp)]; simp
def findQ (l : List Ch) (n : ByteArray) : ByteArray × Bool × Int × Int × Int × ByteArray × Bool :=
  if 0 ≤ idx (is n) l 0 then ((rd_T33 l (idx (is n) l 0)).f0, (rd_T33 l (idx (is n) l 0)).f1, (rd_T33 l (idx (is n) l 0)).f2.f0, (rd_T33 l (idx (is n) l 0)).f2.f1, (rd_T33 l (idx (is n) l 0)).f2.f2, (rd_T33 l (idx (is n) l 0)).f2.f3, true) else (⟨#[]⟩, false, 0, 0, 0, ⟨#[]⟩, false)
theorem find_b (l : List Ch) (lat : Bool) (n : ByteArray) : queue_Find.f l lat n = some (findQ l n) := by
  unfold queue_Find.f findQ
  rw [place_f]
  simp only [Option.bind_some]
  have := idx_lt (is n) l
  by_cases c : 0 ≤ idx (is n) l 0
  · rw [decide_eq_true c, if_pos rfl, if_pos c, if_pos c]
    by_cases d : idx (is n) l 0 < (l.length : Int)
    · rw [if_pos d]
    · rcases idx_no (is n) l 0 (by omega) with ⟨h, _⟩ | ⟨j, h, h2, _⟩ <;> omega
  · rw [decide_eq_false c, if_neg (by simp), if_neg c]
def popQ (l : List Ch) (lat : Bool) : ByteArray × Bool × Int × Int × Int × ByteArray × List Ch × Bool × Bool :=
  if l.length = 0 then (⟨#[]⟩, false, 0, 0, 0, ⟨#[]⟩, l, lat, false) else ((rd_T33 l 0).f0, (rd_T33 l 0).f1, (rd_T33 l 0).f2.f0, (rd_T33 l 0).f2.f1, (rd_T33 l 0).f2.f2, (rd_T33 l 0).f2.f3, l.drop 1, lat, true)
theorem pop_b (l : List Ch) (lat : Bool) : queue_Pop.f l lat = some (popQ l lat) := by
  unfold queue_Pop.f popQ
  by_cases c : l.length = 0
  · rw [if_pos (by omega), if_pos c]
  · rw [if_neg (by omega), if_neg c, if_pos (by omega), if_pos (by omega)]
theorem empty_b (l : List Ch) (lat : Bool) : queue_Empty.f l lat = some (decide (l.length = 0) && !lat) := by
  unfold queue_Empty.f
  by_cases c : l.length = 0
  · rw [if_pos (by omega), decide_eq_true c]; rfl
  · rw [if_neg (by omega), decide_eq_false c]; rfl
theorem less_bytes : ∀ a b : List UInt8, Op.bytesLess a b = decide (Lib.compareBytes a b < 0)
  | [], [] => rfl
  | [], _ :: _ => rfl
  | _ :: _, [] => rfl
  | x :: a, y :: b => by
    rw [Op.bytesLess, Lib.compareBytes]
    by_cases c : x < y
    · simp [c]
    · rw [if_neg c]
      by_cases d : y < x
      · rw [if_pos d]
        have hne : ¬ x = y := fun e => by subst e; exact c d
        simp [c, hne]
      · rw [if_neg d]
        have he : x = y := by
          have h1 : ¬ x.toNat < y.toNat := fun h => c h
          have h2 : ¬ y.toNat < x.toNat := fun h => d h
          exact UInt8.toNat_inj.1 (by omega)
        subst he
        simp [less_bytes a b]
theorem refLess_b (a b : ByteArray) : rollcallref03_Less.f a b = some (lessB a b) := by
  unfold rollcallref03_Less.f lessB XLess.ordI XLess.orI XLess.cmpI XLess.byBytes
  by_cases c : (a.size : Int) < (b.size : Int)
  · rw [if_pos c, if_pos c]; rfl
  · rw [if_neg c, if_neg c]
    by_cases d : (a.size : Int) = (b.size : Int)
    · rw [if_pos d, if_neg (by omega), less_bytes, Lib.toList_data, Lib.toList_data]
    · rw [if_neg d, if_pos (by omega), if_pos (show (a.size : Int) > (b.size : Int) by omega)]; rfl
theorem rdS_at (l : List Se) (j : Nat) (h : j < l.length) : rd_T52 l (j : Int) = l[j] := by
  unfold rd_T52
  rw [Int.toNat_natCast, getD_lt l _ j h]
def setC (t : List Se) (c : Ch) : List Se := setL t c.f0 c.f1 c.f2.f0 c.f2.f1 c.f2.f2 c.f2.f3
theorem setC_len (t : List Se) (c : Ch) : (setC t c).length ≤ t.length + 1 := by
  unfold setC setL
  have h : ∀ p : Se → Bool, (t.filter p).length ≤ t.length := fun p => List.length_filter_le _ _
  split
  · rw [insL_len]; exact Nat.add_le_add_right (h _) 1
  · exact Nat.le_succ_of_le (h _)
def overQ (t : List Se) (l : List Ch) : List Se := l.foldl setC t
theorem overL (l : List Ch) (hl : l.length ≤ 1000) : ∀ (d k j : Nat) (t : List Se), j + d = l.length → d < k → t.length + d < 900000 → queue_Over.l0 k t l (l.length : Int) (j : Int) = some (overQ t (l.drop j)) := by
  intro d
  induction d with
  | zero =>
    intro k j t hj hk ht
    obtain ⟨k, rfl⟩ : ∃ m, k = m + 1 := ⟨k - 1, by omega⟩
    rw [queue_Over.l0, if_neg (by omega), List.drop_eq_nil_of_le (by omega)]
    rfl
  | succ d ih =>
    intro k j t hj hk ht
    obtain ⟨k, rfl⟩ : ∃ m, k = m + 1 := ⟨k - 1, by omega⟩
    rw [queue_Over.l0, if_pos (by omega), if_pos (by omega), if_pos (by omega), rd_at l j (by omega), drop_get l j (by omega)]
    have e : digest_Set.f t l[j].f0 l[j].f1 l[j].f2.f0 l[j].f2.f1 l[j].f2.f2 l[j].f2.f3 = some (setC t l[j]) := by
      show XSet.digest_Set.f _ _ _ _ _ _ _ = _
      unfold XSet.digest_Set.f
      rw [if_pos (by omega)]
      rfl
    rw [e]
    simp only [Option.bind_some]
    have := setC_len t l[j]
    rw [wrap_succ j (by omega), ih k (j + 1) _ (by omega) (by omega) (by omega)]
    rfl
theorem over_b (k : Nat) (t : List Se) (l : List Ch) (lat : Bool) (hl : l.length ≤ 1000) (ht : t.length ≤ 1000) (hk : l.length < k) : queue_Over.f k t l lat = some (overQ t l) := by
  have := overL l hl l.length k 0 t (by omega) hk (by omega)
  rw [List.drop_zero] at this
  exact this
theorem sameSL (l : List Se) (hl : l.length ≤ 1000000) : ∀ (d k j : Nat), j + d = l.length → d < k → rollcallref05_Same.l0 k l l (j : Int) = some true := by
  intro d
  induction d with
  | zero =>
    intro k j hj hk
    obtain ⟨k, rfl⟩ : ∃ m, k = m + 1 := ⟨k - 1, by omega⟩
    rw [rollcallref05_Same.l0, if_neg (by omega)]
  | succ d ih =>
    intro k j hj hk
    obtain ⟨k, rfl⟩ : ∃ m, k = m + 1 := ⟨k - 1, by omega⟩
    rw [rollcallref05_Same.l0, if_pos (by omega), if_pos (by omega), if_pos (by omega), if_neg (by simp), wrap_succ j (by omega)]
    exact ih k (j + 1) (by omega) (by omega)
theorem sameS_f (k : Nat) (l : List Se) (hl : l.length ≤ 1000000) (hk : l.length < k) : rollcallref05_Same.f k l l = some true := by
  unfold rollcallref05_Same.f
  rw [if_pos rfl]
  exact sameSL l hl l.length k 0 (by omega) hk
theorem overQ_len (l : List Ch) : ∀ t : List Se, (overQ t l).length ≤ t.length + l.length := by
  induction l with
  | nil => intro t; exact Nat.le_refl _
  | cons c l ih =>
    intro t
    have h1 := setC_len t c
    have h2 := ih (setC t c)
    show (overQ (setC t c) l).length ≤ _
    simp only [List.length_cons]
    omega
theorem fewSL (l : List Se) (hl : l.length ≤ 1000000) : ∀ (d k j : Nat), j + d = l.length → d < k → ∃ b, rollcallref05_Few.l0 k l (j : Int) = some b := by
  intro d
  induction d with
  | zero =>
    intro k j hj hk
    obtain ⟨k, rfl⟩ : ∃ m, k = m + 1 := ⟨k - 1, by omega⟩
    rw [rollcallref05_Few.l0, if_neg (by omega)]
    exact ⟨_, rfl⟩
  | succ d ih =>
    intro k j hj hk
    obtain ⟨k, rfl⟩ : ∃ m, k = m + 1 := ⟨k - 1, by omega⟩
    rw [rollcallref05_Few.l0, if_pos (by omega), if_pos (by omega), wrap_succ j (by omega)]
    obtain ⟨b, hb⟩ := ih k (j + 1) (by omega) (by omega)
    split
    · exact ⟨_, rfl⟩
    · split
      · exact ⟨_, rfl⟩
      · exact ⟨b, hb⟩
theorem fewS_f (k : Nat) (l : List Se) (hk : 60 ≤ k) : ∃ q, rollcallref05_Few.f k l = some q ∧ (q = true → l.length ≤ 40) := by
  unfold rollcallref05_Few.f
  by_cases c : (l.length : Int) > 40
  · rw [if_pos c]; exact ⟨_, rfl, fun h => by cases h⟩
  · rw [if_neg c]
    obtain ⟨b, hb⟩ := fewSL l (by omega) l.length k 0 (by omega) (by omega)
    exact ⟨b, hb, fun _ => by omega⟩
end Go.Proofs.Ythcmelchgnekpaa.XV17
/- The functions of queues and tables that are asked in law17, called over slices that are only read. -/
namespace Go.Proofs.Ythcmelchgnekpaa.XHand
open Go.RowKit Go.Proofs.YthcmelchgnekpaaW.PrintWords Go.Proofs.YthcmelchgnekpaaW.PrintLast Go.Proofs.YthcmelchgnekpaaW.PrintMore Go.Proofs.Ythcmelchgnekpaa.XQuiet Go.Proofs.Ythcmelchgnekpaa.XMem Go.Proofs.Ythcmelchgnekpaa.PA Go.Proofs.Ythcmelchgnekpaa.XV17
open Go.Proofs.Ythcmelchgnekpaa.XLive17 hiding Ch Se
set_option linter.unusedVariables false
set_option linter.unusedSimpArgs false
theorem few_im {w : World} {v : Value} {l : List Ch} {b r : Bool} (h : Im kCh w v l) (hf : rollcallref17_Few.f 60 l b = some r) :
    Calls Try.prog 8 #[.agg #[v, .bool b]] w fun e w' => e = .returned (.bool r) ∧ Below w.heap.size w w' := by
  obtain ⟨A, c, rfl, hc, hC⟩ := h.slice
  exact rollcallref17_Few.calls 60 A c l b r w hC hc hf
theorem fewS_im {w : World} {v : Value} {l : List Se} {r : Bool} (h : Im kSe w v l) (hf : rollcallref05_Few.f 60 l = some r) :
    Calls Try.prog 9 #[v] w fun e w' => e = .returned (.bool r) ∧ Below w.heap.size w w' := by
  obtain ⟨A, c, rfl, hc, hC⟩ := h.slice
  exact (rollcallref05_Few.calls 60 A c l r w hC hc hf).mono fun _ _ ⟨h1, h2⟩ => ⟨h1, h2.below⟩
theorem mayk_im {w : World} {v : Value} {l : List Ch} {b r : Bool} {room : Int} (h : Im kCh w v l) (hf : queue_May.f 200 l b room = some r) :
    Calls Try.prog 13 #[.agg #[v, .bool b], .int .i64 room] w fun e w' => e = .returned (.bool r) ∧ Below w.heap.size w w' := by
  obtain ⟨A, c, rfl, hc, hC⟩ := h.slice
  exact queue_May.calls 200 A c l b room r w hC hc hf
theorem rmayk_im {w : World} {v : Value} {l : List Ch} {b r : Bool} {room : Int} (h : Im kCh w v l) (hf : rollcallref17_May.f 200 l b room = some r) :
    Calls Try.prog 14 #[.agg #[v, .bool b], .int .i64 room] w fun e w' => e = .returned (.bool r) ∧ Below w.heap.size w w' := by
  obtain ⟨A, c, rfl, hc, hC⟩ := h.slice
  exact rollcallref17_May.calls 200 A c l b room r w hC hc hf
theorem samek_im {w : World} {v1 v2 : Value} {l1 l2 : List Ch} {b1 b2 r : Bool} (h1 : Im kCh w v1 l1) (h2 : Im kCh w v2 l2) (hf : rollcallref17_Same.f 200 l1 b1 l2 b2 = some r) :
    Calls Try.prog 19 #[.agg #[v1, .bool b1], .agg #[v2, .bool b2]] w fun e w' => e = .returned (.bool r) ∧ Below w.heap.size w w' := by
  obtain ⟨A, c, rfl, hc, hC⟩ := h1.slice
  obtain ⟨A2, c2, rfl, hc2, hC2⟩ := h2.slice
  exact rollcallref17_Same.calls 200 A c l1 b1 A2 c2 l2 b2 r w hC hc hC2 hc2 hf
theorem sameS_im {w : World} {v1 v2 : Value} {l1 l2 : List Se} {r : Bool} (h1 : Im kSe w v1 l1) (h2 : Im kSe w v2 l2) (hf : rollcallref05_Same.f 200 l1 l2 = some r) :
    Calls Try.prog 22 #[v1, v2] w fun e w' => e = .returned (.bool r) ∧ Below w.heap.size w w' := by
  obtain ⟨A, c, rfl, hc, hC⟩ := h1.slice
  obtain ⟨A2, c2, rfl, hc2, hC2⟩ := h2.slice
  exact (rollcallref05_Same.calls 200 A c l1 A2 c2 l2 r w hC hc hC2 hc2 hf).mono fun _ _ ⟨h1, h2⟩ => ⟨h1, h2.below⟩
theorem overk_im {w : World} {v1 v2 : Value} {t : List Se} {l : List Ch} {b : Bool} {r : List Se} (h1 : Im kSe w v1 t) (h2 : Im kCh w v2 l) (hf : queue_Over.f 200 t l b = some r) :
    Calls Try.prog 23 #[v1, .agg #[v2, .bool b]] w fun e w' => ∃ v', e = .returned v' ∧ Im kSe w' v' r ∧ Below w.heap.size w w' := by
  obtain ⟨A, c, rfl, hc, hF⟩ := h1
  obtain ⟨A2, c2, rfl, hc2, hC2⟩ := h2.slice
  exact (queue_Over.calls 200 (fun _ => True) A c t A2 c2 l b r w ⟨A, c, rfl, hc, hF⟩ hC2 hc2 hf).mono fun e w' ⟨v0, he, hV, hb⟩ => ⟨v0, he, Im.of_V hV, hb⟩
theorem mayT_im {w : World} {v : Value} {l : List Se} {r : Bool} (h : Im kSe w v l) (hf : rollcallref05_May.f 200 l = some r) :
    Calls Try.prog 28 #[v] w fun e w' => e = .returned (.bool r) ∧ Below w.heap.size w w' := by
  obtain ⟨A, c, rfl, hc, hC⟩ := h.slice
  exact (rollcallref05_May.calls 200 A c l r w hC hc hf).mono fun _ _ ⟨h1, h2⟩ => ⟨h1, h2⟩
theorem changes_im {w : World} {v : Value} {l : List Ch} {m : Int} {r : Bool} (h : Im kCh w v l) (hf : rollcallref17_Changes.f 60 l m = some r) :
    Calls Try.prog 25 #[v, .int .i64 m] w fun e w' => e = .returned (.bool r) ∧ Below w.heap.size w w' := by
  obtain ⟨A, c, rfl, hc, hC⟩ := h.slice
  exact (rollcallref17_Changes.calls 60 A c l m r w hC hc hf).mono fun _ _ ⟨h1, h2⟩ => ⟨h1, h2.below⟩
end Go.Proofs.Ythcmelchgnekpaa.XHand
