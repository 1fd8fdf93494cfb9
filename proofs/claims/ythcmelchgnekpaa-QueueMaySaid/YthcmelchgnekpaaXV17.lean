/- Queues in plain lists: what the printed functions of queue, and of its reference, answer. -/
import Derived.Test.YthcmelchgnekpaaPAx4
import Derived.Test.YthcmelchgnekpaaPAx13
import Derived.Test.YthcmelchgnekpaaPAx9
import Derived.Test.YthcmelchgnekpaaPAx5
import Derived.Test.YthcmelchgnekpaaPAx6
import Derived.Test.YthcmelchgnekpaaXGen
namespace Go.Proofs.Ythcmelchgnekpaa.XV17
open Go.RowKit Go.Proofs.Ythcmelchgnekpaa.PA Go.Proofs.YthcmelchgnekpaaW.PrintWords Go.Proofs.YthcmelchgnekpaaW.PrintLast Go.Proofs.Ythcmelchgnekpaa.XGen
open Go.Proofs.Ythcmelchgnekpaa.XPlace (idx is)
open Go.Proofs.Ythcmelchgnekpaa.XIdent (isB okAt)
open Go.Proofs.Ythcmelchgnekpaa.XMay (mayB numsB)
open Go.Proofs.Ythcmelchgnekpaa.XOdd (odd)
set_option linter.unusedVariables false
set_option linter.unusedSimpArgs false
abbrev Ch := S33
theorem is_iff {n : ByteArray} {x : Ch} : is n x = true ↔ x.f0 = n := by simp [is, toList_inj]
theorem idx_no (p : Ch → Bool) : ∀ (l : List Ch) (i : Int), 0 ≤ i → (idx p l i = -1 ∧ ∀ x ∈ l, p x = false) ∨ ∃ (k : Nat) (h : k < l.length), idx p l i = i + k ∧ (∀ (j : Nat) (hj : j < l.length), j < k → p l[j] = false) ∧ p l[k] = true
  | [], i, _ => .inl ⟨rfl, fun x hx => by cases hx⟩
  | x :: t, i, h => by
    rw [idx]
    by_cases c : p x = true
    · rw [if_pos c]
      exact .inr ⟨0, by simp, by simp, fun j _ hj => absurd hj (Nat.not_lt_zero j), c⟩
    · rw [if_neg c]
      rcases idx_no p t (i + 1) (by omega) with ⟨h1, h2⟩ | ⟨k, h1, h2, h3, h5⟩
      · refine .inl ⟨h1, fun y hy => ?_⟩
        rcases List.mem_cons.1 hy with rfl | hy
        · exact Bool.eq_false_iff.mpr c
        · exact h2 y hy
      · refine .inr ⟨k + 1, by simp; omega, by rw [h2]; simp; omega, fun j hj hjk => ?_, by simpa using h5⟩
        cases j with
        | zero => simpa using c
        | succ j => simp only [List.getElem_cons_succ]; exact h3 j _ (by omega)
theorem idx_first (p : Ch → Bool) (l : List Ch) (k : Nat) (h : k < l.length) (h1 : ∀ (j : Nat) (hj : j < l.length), j < k → p l[j] = false) (h2 : p l[k] = true) : idx p l 0 = (k : Int) := by
  rcases idx_no p l 0 (by omega) with ⟨_, h4⟩ | ⟨m, hm, h3, h4, h5⟩
  · rw [h4 _ (List.getElem_mem h)] at h2; cases h2
  · rw [h3]
    rcases Nat.lt_trichotomy m k with hlt | rfl | hlt
    · rw [h1 m hm hlt] at h5; cases h5
    · simp
    · rw [h4 k h hlt] at h2; cases h2
theorem idx_none (p : Ch → Bool) (l : List Ch) (h : ∀ x ∈ l, p x = false) : idx p l 0 = -1 := by
  rcases idx_no p l 0 (by omega) with ⟨h3, _⟩ | ⟨m, hm, h3, h4, h5⟩
  · exact h3
  · rw [h _ (List.getElem_mem hm)] at h5; cases h5
theorem rd_at (l : List Ch) (j : Nat) (h : j < l.length) : rd_T33 l (j : Int) = l[j] := by
  unfold rd_T33
  rw [Int.toNat_natCast, getD_lt l _ j h]
/-! ## places -/
theorem place_f (l : List Ch) (n : ByteArray) : api_Change_string.f l n = some (idx (is n) l 0, decide (0 ≤ idx (is n) l 0)) := rfl
theorem refPlaceL (l : List Ch) (n : ByteArray) (b : Bool) (hl : l.length ≤ 1000000) : ∀ (d k j : Nat), j + d = l.length → d < k → rollcallref17_place.l0 k n (j : Int) l b = some (idx (is n) (l.drop j) j) := by
  intro d
  induction d with
  | zero =>
    intro k j hj hk
    obtain ⟨k, rfl⟩ : ∃ m, k = m + 1 := ⟨k - 1, by omega⟩
    rw [rollcallref17_place.l0, if_neg (by omega), List.drop_eq_nil_of_le (by omega)]
    rfl
  | succ d ih =>
    intro k j hj hk
    obtain ⟨k, rfl⟩ : ∃ m, k = m + 1 := ⟨k - 1, by omega⟩
    rw [rollcallref17_place.l0, if_pos (by omega), if_pos (by omega), rd_at l j (by omega), drop_get l j (by omega), wrap_succ j (by omega), ih k (j + 1) (by omega) (by omega), idx]
    by_cases c : l[j].f0.toList = n.toList
    · rw [if_pos c, if_pos (by simp [is, c])]
    · rw [if_neg c, if_neg (by simp [is, c])]
      rfl
theorem refPlace_f (k : Nat) (l : List Ch) (n : ByteArray) (b : Bool) (hl : l.length ≤ 1000000) (hk : l.length < k) : rollcallref17_place.f k l b n = some (idx (is n) l 0) := refPlaceL l n b hl l.length k 0 (by omega) hk
/-! ## what may be -/
def z4 (x : Ch) : Bool := x.f2.f0 == 0 && (x.f2.f1 == 0 && (x.f2.f2 == 0 && (x.f2.f3.toList == ([] : List UInt8))))
def oneB (x : Ch) : Bool := isB x.f0 && if x.f1 = true then mayB x.f2.f0 x.f2.f1 x.f2.f2 x.f2.f3 else z4 x
theorem one_f (x : Ch) (h : x.f0.size ≤ 9223372036854775807) : queue_One.f x.f0 x.f1 x.f2.f0 x.f2.f1 x.f2.f2 x.f2.f3 = some (oneB x) := by
  unfold queue_One.f oneB
  have e : ident_Is.f x.f0 = some (isB x.f0) := by show XIdent.ident_Is.f x.f0 = _; unfold XIdent.ident_Is.f; rw [if_pos h]
  have e2 : value_May.f x.f2.f0 x.f2.f1 x.f2.f2 x.f2.f3 = some (mayB x.f2.f0 x.f2.f1 x.f2.f2 x.f2.f3) := rfl
  rw [e, e2]
  simp only [Option.bind_some]
  cases x.f1 <;> cases isB x.f0 <;> rfl
theorem refMayL (a0 a1 a2 : Int) (s : ByteArray) (hs : s.size ≤ 1000) : ∀ (d k j : Nat), j + d = s.size → d < k → rollcallref04_May.l0 k (j : Int) a0 a1 a2 s = some (!(((bytesOf s).drop j).any odd)) := by
  intro d
  induction d with
  | zero =>
    intro k j hj hk
    obtain ⟨k, rfl⟩ : ∃ m, k = m + 1 := ⟨k - 1, by omega⟩
    rw [rollcallref04_May.l0, if_neg (by omega), List.drop_eq_nil_of_le (by rw [bytesOf_length]; omega)]
    rfl
  | succ d ih =>
    intro k j hj hk
    obtain ⟨k, rfl⟩ : ∃ m, k = m + 1 := ⟨k - 1, by omega⟩
    have hb : (bytesOf s).drop j = bt s (j : Int) :: (bytesOf s).drop (j + 1) := by
      rw [List.drop_eq_getElem_cons (by rw [bytesOf_length]; omega)]
      congr 1
      unfold bytesOf bt
      rw [List.getElem_map, dif_pos (by rw [Int.toNat_natCast]; omega)]
      rfl
    rw [rollcallref04_May.l0, if_pos (by omega), if_pos (by omega), hb, List.any_cons]
    unfold odd
    by_cases c1 : bt s (j : Int) < 32
    · rw [if_pos c1]; simp [c1]
    · rw [if_neg c1]
      by_cases c2 : bt s (j : Int) > 126
      · rw [if_pos c2]; simp [c2]
      · rw [if_neg c2, wrap_succ j (by omega), ih k (j + 1) (by omega) (by omega)]
        have e : (decide (bt s (j : Int) < 32) || decide (126 < bt s (j : Int))) = false := by simp; omega
        rw [e]
        rfl
theorem may_off {a0 a1 a2 : Int} {a3 : ByteArray} (h : ¬ (1 ≤ a0 ∧ a0 ≤ 4 ∧ -128 ≤ a1 ∧ a1 ≤ 127 ∧ 0 ≤ a2 ∧ a2 ≤ 1099511627776 ∧ a3.size ≤ 32)) : mayB a0 a1 a2 a3 = false := by
  unfold mayB
  rw [if_neg (show ¬ numsB a0 a1 a2 a3 from h)]
theorem may_on {a0 a1 a2 : Int} {a3 : ByteArray} (h : 1 ≤ a0 ∧ a0 ≤ 4 ∧ -128 ≤ a1 ∧ a1 ≤ 127 ∧ 0 ≤ a2 ∧ a2 ≤ 1099511627776 ∧ a3.size ≤ 32) : mayB a0 a1 a2 a3 = !((bytesOf a3).any odd) := by
  unfold mayB
  rw [if_pos (show numsB a0 a1 a2 a3 from h)]
theorem refMay_f (k : Nat) (a0 a1 a2 : Int) (a3 : ByteArray) (hk : 40 ≤ k) : rollcallref04_May.f k a0 a1 a2 a3 = some (mayB a0 a1 a2 a3) := by
  obtain ⟨k, rfl⟩ : ∃ m, k = m + 1 := ⟨k - 1, by omega⟩
  unfold rollcallref04_May.f
  have ht : rollcallref04_May.j0 (k + 1) true a0 a1 a2 a3 = some false := by rw [rollcallref04_May.j0, if_pos rfl]
  by_cases c : 1 ≤ a0 ∧ a0 ≤ 4 ∧ -128 ≤ a1 ∧ a1 ≤ 127 ∧ 0 ≤ a2 ∧ a2 ≤ 1099511627776 ∧ a3.size ≤ 32
  · rw [may_on c, if_neg (by omega), if_neg (by omega), if_neg (by omega), if_neg (by omega), if_neg (by omega), if_neg (by omega), rollcallref04_May.j0, if_neg (by simp; omega)]
    exact refMayL a0 a1 a2 a3 (by omega) a3.size k 0 (by omega) (by omega)
  · rw [may_off c, ht]
    by_cases h1 : a0 < 1
    · rw [if_pos h1]
    rw [if_neg h1]
    by_cases h2 : a0 > 4
    · rw [if_pos h2]
    rw [if_neg h2]
    by_cases h3 : a1 < -128
    · rw [if_pos h3]
    rw [if_neg h3]
    by_cases h4 : a1 > 127
    · rw [if_pos h4]
    rw [if_neg h4]
    by_cases h5 : a2 < 0
    · rw [if_pos h5]
    rw [if_neg h5]
    by_cases h6 : a2 > 1099511627776
    · rw [if_pos h6]
    rw [if_neg h6]
    have e : decide ((a3.size : Int) > 32) = true := by simp; omega
    rw [e, ht]
def okR (s : ByteArray) (j : Nat) : Prop := (97 ≤ bt s j ∧ bt s j ≤ 122) ∨ (48 ≤ bt s j ∧ bt s j ≤ 57) ∨ bt s j = 45
instance (s : ByteArray) (j : Nat) : Decidable (okR s j) := by unfold okR; infer_instance
theorem refIsL (s : ByteArray) (hs : s.size ≤ 1000) : ∀ (d k j : Nat), j + d = s.size → d < k → rollcallref03_Is.l0 k s (j : Int) = some ((List.range' j d).all fun i => decide (okR s i)) := by
  intro d
  induction d with
  | zero =>
    intro k j hj hk
    obtain ⟨k, rfl⟩ : ∃ m, k = m + 1 := ⟨k - 1, by omega⟩
    rw [rollcallref03_Is.l0, if_neg (by omega)]
    rfl
  | succ d ih =>
    intro k j hj hk
    obtain ⟨k, rfl⟩ : ∃ m, k = m + 1 := ⟨k - 1, by omega⟩
    rw [rollcallref03_Is.l0, if_pos (by omega), if_pos (by omega), wrap_succ j (by omega), ih k (j + 1) (by omega) (by omega), List.range'_succ, List.all_cons]
    by_cases c : okR s j
    · have e : decide (okR s j) = true := by simp [c]
      rw [e, Bool.true_and]
      unfold okR at c
      repeat' split
      all_goals first | rfl | (exfalso; omega)
    · have e : decide (okR s j) = false := by simp [c]
      rw [e, Bool.false_and]
      unfold okR at c
      repeat' split
      all_goals first | rfl | (exfalso; omega)
theorem refIs_f (k : Nat) (s : ByteArray) (hk : 30 ≤ k) : rollcallref03_Is.f k s = some (isB s) := by
  obtain ⟨k, rfl⟩ : ∃ m, k = m + 1 := ⟨k - 1, by omega⟩
  unfold rollcallref03_Is.f isB
  have ht : rollcallref03_Is.j0 (k + 1) s true = some false := by rw [rollcallref03_Is.j0, if_pos rfl]
  by_cases h1 : (s.size : Int) < 1
  · rw [if_pos h1, ht]
    have : decide (0 < s.size ∧ s.size ≤ 16) = false := by simp; omega
    rw [this, Bool.false_and]
  rw [if_neg h1]
  by_cases h2 : (s.size : Int) > 16
  · rw [if_pos h2, ht]
    have : decide (0 < s.size ∧ s.size ≤ 16) = false := by simp; omega
    rw [this, Bool.false_and]
  rw [if_neg h2, if_pos (by omega)]
  have e1 : decide (0 < s.size ∧ s.size ≤ 16) = true := by simp; omega
  rw [e1, Bool.true_and]
  have e0 : ∀ b : Bool, b = decide (okAt s 0) → (List.range s.size).all (fun j => decide (okAt s j)) = (b && (List.range' 0 s.size).all fun i => decide (okR s i)) := by
    intro b hb
    rw [hb]
    obtain ⟨m, hm⟩ : ∃ m, s.size = m + 1 := ⟨s.size - 1, by omega⟩
    rw [hm, List.range_eq_range', List.range'_succ, List.all_cons, List.all_cons]
    have e2 : (List.range' (0 + 1) m).all (fun j => decide (okAt s j)) = (List.range' (0 + 1) m).all (fun i => decide (okR s i)) := by
      rw [Bool.eq_iff_iff, List.all_eq_true, List.all_eq_true]
      constructor
      · intro h i hi
        have := h i hi
        have hi' := (List.mem_range'_1.1 hi).1
        simp only [decide_eq_true_eq] at this ⊢
        unfold okAt at this
        unfold okR
        omega
      · intro h i hi
        have := h i hi
        have hi' := (List.mem_range'_1.1 hi).1
        simp only [decide_eq_true_eq] at this ⊢
        unfold okR at this
        unfold okAt
        omega
    rw [e2]
    by_cases c : okAt s 0
    · have : okR s 0 := by unfold okAt at c; unfold okR; omega
      simp [c, this]
    · simp [c]
  by_cases h3 : bt s 0 < 97
  · rw [if_pos h3, ht, e0 false (by unfold okAt; simp; omega)]
    rfl
  rw [if_neg h3]
  by_cases h4 : bt s 0 > 122
  · have e : decide (bt s 0 > 122) = true := by simp; omega
    rw [e, ht, e0 false (by unfold okAt; simp; omega)]
    rfl
  · have e : decide (bt s 0 > 122) = false := by simp; omega
    rw [e, rollcallref03_Is.j0, if_neg (by simp), e0 true (by unfold okAt; simp; omega), Bool.true_and]
    exact refIsL s (by omega) s.size k 0 (by omega) (by omega)
theorem refOne_f (k : Nat) (x : Ch) (hk : 40 ≤ k) : rollcallref17_One.f k x.f0 x.f1 x.f2.f0 x.f2.f1 x.f2.f2 x.f2.f3 = some (oneB x) := by
  unfold rollcallref17_One.f oneB
  rw [refIs_f k _ (by omega), refMay_f k _ _ _ _ hk]
  simp only [Option.bind_some]
  cases x.f1 <;> cases isB x.f0 <;> rfl
/-- No two of one contact. -/
def Apart (l : List Ch) : Prop := ∀ (i j : Nat) (hi : i < l.length) (hj : j < l.length), j < i → l[j].f0 ≠ l[i].f0
theorem place_own {l : List Ch} (h : Apart l) (i : Nat) (hi : i < l.length) : idx (is l[i].f0) l 0 = (i : Int) := by
  refine idx_first _ l i hi (fun j hj hji => ?_) (is_iff.2 rfl)
  exact Bool.eq_false_iff.mpr (fun e => h i j hi hj hji (is_iff.1 e))
theorem mayL (l : List Ch) (lat : Bool) (room : Int) (hl : l.length ≤ 1000000) (hs : ∀ x ∈ l, x.f0.size ≤ 9223372036854775807) (h1 : (l.length : Int) ≤ room) (h2 : lat = true → l = []) (h3 : ∀ x ∈ l, oneB x = true) (h4 : Apart l) :
    ∀ (d k j : Nat), j + d = l.length → d < k → queue_May.l0 k room l (l.length : Int) (j : Int) l lat = some true := by
  intro d
  induction d with
  | zero =>
    intro k j hj hk
    obtain ⟨k, rfl⟩ : ∃ m, k = m + 1 := ⟨k - 1, by omega⟩
    rw [queue_May.l0, if_neg (by omega), if_pos h1]
    cases lat with
    | true => rw [if_pos rfl, h2 rfl]; rfl
    | false => rw [if_neg (by simp)]
  | succ d ih =>
    intro k j hj hk
    obtain ⟨k, rfl⟩ : ∃ m, k = m + 1 := ⟨k - 1, by omega⟩
    have hm : l[j] ∈ l := List.getElem_mem _
    rw [queue_May.l0, if_pos (by omega), if_pos (by omega), if_pos (by omega), rd_at l j (by omega), place_f, place_own h4 j (by omega)]
    simp only [Option.bind_some, if_true]
    rw [one_f l[j] (hs _ hm), h3 _ hm]
    simp only [Option.bind_some, if_true]
    rw [wrap_succ j (by omega)]
    exact ih k (j + 1) (by omega) (by omega)
theorem may_f (k : Nat) (l : List Ch) (lat : Bool) (room : Int) (hl : l.length ≤ 1000000) (hs : ∀ x ∈ l, x.f0.size ≤ 9223372036854775807) (h1 : (l.length : Int) ≤ room) (h2 : lat = true → l = []) (h3 : ∀ x ∈ l, oneB x = true) (h4 : Apart l) (hk : l.length < k) : queue_May.f k l lat room = some true :=
  mayL l lat room hl hs h1 h2 h3 h4 l.length k 0 (by omega) hk
theorem refMayLL (l : List Ch) (lat : Bool) (hl : l.length ≤ 1000000) : ∀ (d k j : Nat), j + d = l.length → d + l.length + 100 < k → ∃ b, rollcallref17_May.l0 k (j : Int) l lat = some b ∧ (b = true → ∀ (i : Nat) (hi : i < l.length), j ≤ i → oneB l[i] = true ∧ idx (is l[i].f0) l 0 = (i : Int)) := by
  intro d
  induction d with
  | zero =>
    intro k j hj hk
    obtain ⟨k, rfl⟩ : ∃ m, k = m + 1 := ⟨k - 1, by omega⟩
    rw [rollcallref17_May.l0, if_neg (by omega)]
    exact ⟨_, rfl, fun _ i hi hij => by omega⟩
  | succ d ih =>
    intro k j hj hk
    obtain ⟨k, rfl⟩ : ∃ m, k = m + 1 := ⟨k - 1, by omega⟩
    rw [rollcallref17_May.l0, if_pos (by omega), if_pos (by omega), rd_at l j (by omega), refOne_f k l[j] (by omega), refPlace_f k l _ lat hl (by omega), wrap_succ j (by omega)]
    simp only [Option.bind_some]
    by_cases c : oneB l[j] = true
    · rw [if_pos c]
      by_cases c2 : idx (is l[j].f0) l 0 = (j : Int)
      · rw [if_pos c2]
        obtain ⟨b, hb, h⟩ := ih k (j + 1) (by omega) (by omega)
        refine ⟨b, hb, fun e i hi hij => ?_⟩
        rcases Nat.lt_or_ge j i with hlt | hge
        · exact h e i hi hlt
        · obtain rfl : i = j := by omega
          exact ⟨c, c2⟩
      · rw [if_neg c2]
        exact ⟨_, rfl, fun e => by cases e⟩
    · rw [if_neg c]
      exact ⟨_, rfl, fun e => by cases e⟩
theorem refMayQ_f (k : Nat) (l : List Ch) (lat : Bool) (room : Int) (hl : l.length ≤ 1000000) (hk : 2 * l.length + 110 < k) : ∃ b, rollcallref17_May.f k l lat room = some b ∧ (b = true → (l.length : Int) ≤ room ∧ (lat = true → l = []) ∧ (∀ x ∈ l, oneB x = true) ∧ Apart l) := by
  obtain ⟨k, rfl⟩ : ∃ m, k = m + 1 := ⟨k - 1, by omega⟩
  have ht : rollcallref17_May.j0 (k + 1) true l lat = some false := by rw [rollcallref17_May.j0, if_pos rfl]
  unfold rollcallref17_May.f
  by_cases h1 : (l.length : Int) > room
  · rw [if_pos h1, ht]; exact ⟨_, rfl, fun e => by cases e⟩
  rw [if_neg h1]
  have key : ∀ q : Bool, (q = false → lat = true → l = []) → ∃ b, rollcallref17_May.j0 (k + 1) q l lat = some b ∧ (b = true → (l.length : Int) ≤ room ∧ (lat = true → l = []) ∧ (∀ x ∈ l, oneB x = true) ∧ Apart l) := by
    intro q hq
    cases q with
    | true => rw [ht]; exact ⟨_, rfl, fun e => by cases e⟩
    | false =>
      rw [rollcallref17_May.j0, if_neg (by simp)]
      obtain ⟨b, hb, h⟩ := refMayLL l lat hl l.length k 0 (by omega) (by omega)
      refine ⟨b, hb, fun e => ⟨by omega, hq rfl, fun x hx => ?_, fun i j hi hj hji he => ?_⟩⟩
      · obtain ⟨i, hi, rfl⟩ := List.getElem_of_mem hx
        exact (h e i hi (Nat.zero_le _)).1
      · have h5 := (h e i hi (Nat.zero_le _)).2
        rcases idx_no (is l[i].f0) l 0 (by omega) with ⟨h6, _⟩ | ⟨m, hm, h6, h7, _⟩
        · omega
        · obtain rfl : m = i := by omega
          have := h7 j hj hji
          rw [is_iff.2 he] at this
          cases this
  cases lat with
  | true =>
    rw [if_pos rfl]
    refine key _ (fun h _ => ?_)
    simp only [decide_eq_false_iff_not] at h
    exact List.length_eq_zero_iff.1 (by omega)
  | false =>
    rw [if_neg (by simp)]
    exact key false (fun _ h => by cases h)
/-! ## pushes -/
def PU (l : List Ch) (lat : Bool) (c : Ch) (room : Int) : List Ch × Bool :=
  if lat = true then (l, lat) else if 0 ≤ idx (is c.f0) l 0 then (l.set (idx (is c.f0) l 0).toNat c, false) else if (l.length : Int) < room then (l ++ [c], false) else ([], true)
theorem idx_lt (p : Ch → Bool) (l : List Ch) : idx p l 0 < (l.length : Int) := by
  rcases idx_no p l 0 (by omega) with ⟨h, _⟩ | ⟨m, hm, h, _⟩
  · rw [h]; omega
  · rw [h]; omega
theorem push_f (l : List Ch) (lat : Bool) (c : Ch) (room : Int) (hl : l.length ≤ 1000000) : queue_Push.f l lat c.f0 c.f1 c.f2.f0 c.f2.f1 c.f2.f2 c.f2.f3 room = some (PU l lat c room) := by
  unfold queue_Push.f PU
  cases lat with
  | true => rw [if_pos rfl, if_pos rfl]
  | false =>
    have e1 : api_Change_39.f l = some l := by
      show XCloneChg.slices_Clone.f l = _
      unfold XCloneChg.slices_Clone.f
      rw [if_pos (by omega)]
    have e2 : api_Change_40.f [l, [c]] = some (l ++ [c]) := by
      show XConcatChg.slices_Concat.f [l, [c]] = _
      unfold XConcatChg.slices_Concat.f
      rw [if_pos (by simp; omega)]
      simp
    have e3 : (⟨c.f0, c.f1, (⟨c.f2.f0, c.f2.f1, c.f2.f2, c.f2.f3⟩ : S31)⟩ : Ch) = c := rfl
    simp only [Bool.false_eq_true, if_false, place_f, e1, e3, Option.bind_some, decide_eq_true_eq]
    by_cases c1 : 0 ≤ idx (is c.f0) l 0
    · rw [if_pos c1, if_pos c1, if_pos c1, if_pos (idx_lt _ l)]
    · rw [if_neg c1, if_neg c1]
      by_cases c2 : (l.length : Int) < room
      · rw [if_pos c2, if_pos c2, e2]
        rfl
      · rw [if_neg c2, if_neg c2]
theorem refPush_f (k : Nat) (l : List Ch) (lat : Bool) (c : Ch) (room : Int) (hl : l.length ≤ 1000000) (hk : l.length < k) : rollcallref17_Push.f k l lat c.f0 c.f1 c.f2.f0 c.f2.f1 c.f2.f2 c.f2.f3 room = some (PU l lat c room) := by
  unfold rollcallref17_Push.f PU
  cases lat with
  | true => rw [if_pos rfl, if_pos rfl]
  | false =>
    have e3 : (⟨c.f0, c.f1, (⟨c.f2.f0, c.f2.f1, c.f2.f2, c.f2.f3⟩ : S31)⟩ : Ch) = c := rfl
    rw [if_neg (by simp), if_neg (by simp)]
    simp only [Option.bind_some, List.length_nil, List.nil_append, e3]
    rw [if_pos (by omega), refPlace_f k l _ false hl hk]
    simp only [Option.bind_some]
    by_cases c1 : 0 ≤ idx (is c.f0) l 0
    · rw [if_pos c1, if_pos c1, if_pos c1, if_pos (idx_lt _ l)]
    · rw [if_neg c1, if_neg c1]
      by_cases c2 : (l.length : Int) < room
      · rw [if_pos c2, if_pos c2, if_pos (by omega)]
      · rw [if_neg c2, if_neg c2]
/-! ## the same -/
theorem sameL (l : List Ch) (hl : l.length ≤ 1000000) : ∀ (d k j : Nat), j + d = l.length → d < k → rollcallref05_SameChanges.l0 k l l (j : Int) = some true := by
  intro d
  induction d with
  | zero =>
    intro k j hj hk
    obtain ⟨k, rfl⟩ : ∃ m, k = m + 1 := ⟨k - 1, by omega⟩
    rw [rollcallref05_SameChanges.l0, if_neg (by omega)]
  | succ d ih =>
    intro k j hj hk
    obtain ⟨k, rfl⟩ : ∃ m, k = m + 1 := ⟨k - 1, by omega⟩
    rw [rollcallref05_SameChanges.l0, if_pos (by omega), if_pos (by omega), if_pos (by omega), if_neg (by simp), wrap_succ j (by omega)]
    exact ih k (j + 1) (by omega) (by omega)
theorem same_f (k : Nat) (l : List Ch) (b : Bool) (hl : l.length ≤ 1000000) (hk : l.length < k) : rollcallref17_Same.f k l b l b = some true := by
  unfold rollcallref17_Same.f rollcallref05_SameChanges.f
  have h0 := sameL l hl l.length k 0 (by omega) hk
  rw [Int.natCast_zero] at h0
  rw [if_pos (by simp), if_pos rfl, h0]
  rfl
theorem PU_len (l : List Ch) (lat : Bool) (c : Ch) (room : Int) : (PU l lat c room).1.length ≤ l.length + 1 := by
  unfold PU
  split
  · simp
  · split
    · simp
    · split <;> simp
theorem changesL (l : List Ch) (hl : l.length ≤ 1000000) : ∀ (d k j : Nat), j + d = l.length → d < k → ∃ b, rollcallref17_Changes.l0 k l (j : Int) = some b := by
  intro d
  induction d with
  | zero =>
    intro k j hj hk
    obtain ⟨k, rfl⟩ : ∃ m, k = m + 1 := ⟨k - 1, by omega⟩
    rw [rollcallref17_Changes.l0, if_neg (by omega)]
    exact ⟨_, rfl⟩
  | succ d ih =>
    intro k j hj hk
    obtain ⟨k, rfl⟩ : ∃ m, k = m + 1 := ⟨k - 1, by omega⟩
    rw [rollcallref17_Changes.l0, if_pos (by omega), if_pos (by omega), wrap_succ j (by omega)]
    split
    · exact ⟨_, rfl⟩
    · split
      · exact ⟨_, rfl⟩
      · exact ih k (j + 1) (by omega) (by omega)
theorem changes_f (k : Nat) (l : List Ch) (most : Int) (hm : most ≤ 1000000) (hk : most.toNat < k) : ∃ b, rollcallref17_Changes.f k l most = some b ∧ (b = true → (l.length : Int) ≤ most) := by
  unfold rollcallref17_Changes.f
  by_cases c : (l.length : Int) > most
  · rw [if_pos c]
    exact ⟨_, rfl, fun h => by cases h⟩
  · rw [if_neg c]
    obtain ⟨b, hb⟩ := changesL l (by omega) l.length k 0 (by omega) (by omega)
    exact ⟨b, hb, fun _ => by omega⟩
theorem few_f (k : Nat) (l : List Ch) (b : Bool) (hk : 60 ≤ k) : ∃ q, rollcallref17_Few.f k l b = some q ∧ (q = true → l.length ≤ 30) := by
  unfold rollcallref17_Few.f
  obtain ⟨q, hq, h⟩ := changes_f k l 30 (by omega) (by omega)
  rw [hq]
  exact ⟨q, rfl, fun e => by have := h e; omega⟩
theorem live_100 : rollcalllaw17_live.f 100 = some true := by kernel_rfl
theorem live_f (k : Nat) (hk : 100 ≤ k) : rollcalllaw17_live.f k = some true := at_rounds rollcalllaw17_live.mono hk live_100
end Go.Proofs.Ythcmelchgnekpaa.XV17
