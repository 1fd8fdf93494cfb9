/- What the printed functions of best, and of its reference, answer: the best one by a strict order. -/
import Derived.Test.YtbapkknjbbaclaaPAx6
import Derived.Test.YtbapkknjbbaclaaPAx8
import Derived.Test.YtbapkknjbbaclaaPAx7
import Derived.Test.YtbapkknjbbaclaaXSel
import Derived.Test.YtbapkknjbbaclaaXGen
import Derived.Test.YtbapkknjbbaclaaXBetter
namespace Go.Proofs.Ytbapkknjbbaclaa.XV11
open Go.RowKit Go.Proofs.Ytbapkknjbbaclaa.PA Go.Proofs.YtbapkknjbbaclaaW.PrintWords Go.Proofs.YtbapkknjbbaclaaW.PrintLast Go.Proofs.Ytbapkknjbbaclaa.XGen Go.Proofs.Ytbapkknjbbaclaa.XSel
open Go.Proofs.Ytbapkknjbbaclaa.XBetter (cmpI lex3)
set_option linter.unusedVariables false
set_option linter.unusedSimpArgs false
abbrev Sn := S34
def pr (x : Sn) : Int := x.f2.f1
def si (x : Sn) : Int := x.f2.f2
def idn (x : Sn) : Int := x.f1
def shw (x : Sn) : Int := x.f2.f0
def tup (x : Sn) (b : Bool) : ByteArray × Int × Int × Int × Int × ByteArray × Bool := (x.f0, x.f1, x.f2.f0, x.f2.f1, x.f2.f2, x.f2.f3, b)
def bst (a : Sn) (l : List Sn) : Sn := best pr si idn a l
theorem bst_cons (a b : Sn) (l : List Sn) : bst a (b :: l) = bst (sel pr si idn a b) l := rfl
theorem live_100 : rollcalllaw11_live.f 100 = some true := by kernel_rfl
theorem live_f (k : Nat) (hk : 100 ≤ k) : rollcalllaw11_live.f k = some true := at_rounds rollcalllaw11_live.mono hk live_100
theorem cmp_spec (x y : Int) : (cmpI x y = -1 ∧ x < y) ∨ (cmpI x y = 1 ∧ x > y) ∨ (cmpI x y = 0 ∧ x = y) := by
  unfold cmpI
  split
  · exact .inl ⟨rfl, by assumption⟩
  · split
    · exact .inr (.inl ⟨rfl, by assumption⟩)
    · exact .inr (.inr ⟨rfl, by omega⟩)
theorem better_f (i p s i' p' s' : Int) : heap_Better.f i p s 0 i' p' s' 0 = some (decide (B p s i p' s' i')) := by
  show XBetter.heap_Better.f i p s 0 i' p' s' 0 = _
  unfold XBetter.heap_Better.f
  congr 1
  unfold lex3
  have h1 := cmp_spec p p'
  have h2 := cmp_spec s s'
  have h3 : cmpI 0 0 = 0 := rfl
  rw [h3]
  generalize cmpI p p' = u at *
  generalize cmpI s s' = v at *
  by_cases c : p = p' ∧ s = s' ∧ (0 : Int) = 0
  · rw [if_neg (not_not_intro c), decide_eq_decide, B_iff]
    omega
  · rw [if_pos c, decide_eq_decide, B_iff]
    split
    · omega
    · split <;> omega
theorem better_x (x a : Sn) : heap_Better.f x.f1 x.f2.f1 x.f2.f2 0 a.f1 a.f2.f1 a.f2.f2 0 = some (decide (Bt pr si idn x a)) := better_f _ _ _ _ _ _
theorem refBetter_f (i p s i' p' s' : Int) : rollcallref10_Better.f i p s 0 i' p' s' 0 = some (decide (B p s i p' s' i')) := by
  show XBetter.rollcallref10_Better.f i p s 0 i' p' s' 0 = _
  unfold XBetter.rollcallref10_Better.f
  congr 1
  split
  · rw [decide_eq_decide, B_iff]; omega
  · split
    · rw [decide_eq_decide, B_iff]; omega
    · rw [if_neg (by omega), decide_eq_decide, B_iff]; omega
theorem refBetter_x (x a : Sn) : rollcallref10_Better.f x.f1 x.f2.f1 x.f2.f2 0 a.f1 a.f2.f1 a.f2.f2 0 = some (decide (Bt pr si idn x a)) := refBetter_f _ _ _ _ _ _
theorem rd_at (l : List Sn) (j : Nat) (h : j < l.length) : rd_T34 l (j : Int) = l[j] := by
  unfold rd_T34
  rw [Int.toNat_natCast, getD_lt l _ j h]
theorem bestL (l : List Sn) (hl : l.length ≤ 1000000) : ∀ (d k j : Nat) (a : Sn), j + d = l.length → d < k →
    best_Best.l0 k l (l.length : Int) (j : Int) a.f0 a.f1 a.f2.f0 a.f2.f1 a.f2.f2 a.f2.f3 = some (tup (bst a (l.drop j)) true) := by
  intro d
  induction d with
  | zero =>
    intro k j a hj hk
    obtain ⟨k, rfl⟩ : ∃ m, k = m + 1 := ⟨k - 1, by omega⟩
    rw [best_Best.l0, if_neg (by omega), List.drop_eq_nil_of_le (by omega)]
    rfl
  | succ d ih =>
    intro k j a hj hk
    obtain ⟨k, rfl⟩ : ∃ m, k = m + 1 := ⟨k - 1, by omega⟩
    rw [best_Best.l0, if_pos (by omega), if_pos (by omega), if_pos (by omega), rd_at l j (by omega)]
    simp only [best_Slot.f, Option.bind_some]
    rw [better_x, drop_get l j (by omega), wrap_succ j (by omega)]
    simp only [Option.bind_some, decide_eq_true_eq]
    by_cases c : Bt pr si idn l[j] a
    · rw [if_pos c, ih k (j + 1) _ (by omega) (by omega), bst_cons]
      unfold sel
      rw [if_pos c]
    · rw [if_neg c, ih k (j + 1) _ (by omega) (by omega), bst_cons]
      unfold sel
      rw [if_neg c]
theorem best_f (k : Nat) (a : Sn) (t : List Sn) (h : t.length < 1000000) (hk : t.length < k) : best_Best.f k (a :: t) = some (tup (bst a t) true) := by
  unfold best_Best.f
  have hl : ((a :: t).length : Int) = t.length + 1 := by simp
  rw [if_neg (by omega), if_pos (by omega), if_pos (by omega)]
  have h0 : rd_T34 (a :: t) 0 = a := rfl
  rw [h0]
  simp only [Option.bind_some]
  exact bestL t (by omega) t.length k 0 a (by omega) hk
theorem best_nil (k : Nat) : best_Best.f k [] = some (⟨#[]⟩, 0, 0, 0, 0, ⟨#[]⟩, false) := rfl
theorem refBestL (l : List Sn) (hl : l.length ≤ 1000000) : ∀ (d k j : Nat) (a : Sn), j + d = l.length → d < k →
    rollcallref11_Best.l0 k l (j : Int) a.f0 a.f1 a.f2.f0 a.f2.f1 a.f2.f2 a.f2.f3 = some (tup (bst a (l.drop j)) true) := by
  intro d
  induction d with
  | zero =>
    intro k j a hj hk
    obtain ⟨k, rfl⟩ : ∃ m, k = m + 1 := ⟨k - 1, by omega⟩
    rw [rollcallref11_Best.l0, if_neg (by omega), List.drop_eq_nil_of_le (by omega)]
    rfl
  | succ d ih =>
    intro k j a hj hk
    obtain ⟨k, rfl⟩ : ∃ m, k = m + 1 := ⟨k - 1, by omega⟩
    rw [rollcallref11_Best.l0, if_pos (by omega), if_pos (by omega), rd_at l j (by omega)]
    simp only [rollcallref11_Slot.f, Option.bind_some]
    rw [refBetter_x, drop_get l j (by omega), wrap_succ j (by omega)]
    simp only [Option.bind_some, decide_eq_true_eq]
    by_cases c : Bt pr si idn l[j] a
    · rw [if_pos c, ih k (j + 1) _ (by omega) (by omega), bst_cons]
      unfold sel
      rw [if_pos c]
    · rw [if_neg c, ih k (j + 1) _ (by omega) (by omega), bst_cons]
      unfold sel
      rw [if_neg c]
theorem refBest_f (k : Nat) (a : Sn) (t : List Sn) (h : t.length < 1000000) (hk : t.length < k) : rollcallref11_Best.f k (a :: t) = some (tup (bst a t) true) := by
  unfold rollcallref11_Best.f
  have hl : ((a :: t).length : Int) = t.length + 1 := by simp
  rw [if_neg (by omega), if_pos (by omega)]
  have h0 : rd_T34 (a :: t) 0 = a := rfl
  rw [h0]
  exact refBestL (a :: t) (by simp; omega) t.length k 1 a (by simp; omega) hk
theorem refBest_nil (k : Nat) : rollcallref11_Best.f k [] = some (⟨#[]⟩, 0, 0, 0, 0, ⟨#[]⟩, false) := rfl
def top (v : Int) (l : List Sn) : Int := l.foldl (fun v x => mx v x.f2.f0) v
theorem top_ge (l : List Sn) : ∀ v, v ≤ top v l ∧ ∀ x ∈ l, x.f2.f0 ≤ top v l := by
  induction l with
  | nil => intro v; exact ⟨Int.le_refl _, fun x hx => by cases hx⟩
  | cons a l ih =>
    intro v
    have h := ih (mx v a.f2.f0)
    have e : top v (a :: l) = top (mx v a.f2.f0) l := rfl
    rw [e]
    have h1 : v ≤ mx v a.f2.f0 ∧ a.f2.f0 ≤ mx v a.f2.f0 := by unfold mx; split <;> omega
    refine ⟨by omega, fun x hx => ?_⟩
    rcases List.mem_cons.1 hx with rfl | hx
    · omega
    · exact h.2 x hx
theorem top_mem (l : List Sn) : ∀ v, top v l = v ∨ ∃ x ∈ l, x.f2.f0 = top v l := by
  induction l with
  | nil => intro v; exact .inl rfl
  | cons a l ih =>
    intro v
    have e : top v (a :: l) = top (mx v a.f2.f0) l := rfl
    rw [e]
    rcases ih (mx v a.f2.f0) with h | ⟨x, hx, h⟩
    · rw [h]
      unfold mx
      split
      · exact .inr ⟨a, by simp, rfl⟩
      · exact .inl rfl
    · exact .inr ⟨x, by simp [hx], h⟩
theorem top_map (f : Sn → Sn) (hf : ∀ x, (f x).f2.f0 = x.f2.f0) (l : List Sn) : ∀ v, top v (l.map f) = top v l := by
  induction l with
  | nil => intro v; rfl
  | cons a l ih =>
    intro v
    have e : top v (a :: l) = top (mx v a.f2.f0) l := rfl
    have e2 : top v ((a :: l).map f) = top (mx v (f a).f2.f0) (l.map f) := rfl
    rw [e, e2, hf, ih]
theorem valueL (l : List Sn) (hl : l.length ≤ 1000000) (b : Bool) (p q : Int) (st : ByteArray) : ∀ (d k j : Nat) (v : Int), j + d = l.length → d < k →
    best_Value.l0 k b l (l.length : Int) (j : Int) v p q st = some (top v (l.drop j), p, q, st, b) := by
  intro d
  induction d with
  | zero =>
    intro k j v hj hk
    obtain ⟨k, rfl⟩ : ∃ m, k = m + 1 := ⟨k - 1, by omega⟩
    rw [best_Value.l0, if_neg (by omega), List.drop_eq_nil_of_le (by omega)]
    rfl
  | succ d ih =>
    intro k j v hj hk
    obtain ⟨k, rfl⟩ : ∃ m, k = m + 1 := ⟨k - 1, by omega⟩
    rw [best_Value.l0, if_pos (by omega), if_pos (by omega), if_pos (by omega), rd_at l j (by omega), drop_get l j (by omega), wrap_succ j (by omega), ih k (j + 1) _ (by omega) (by omega)]
    rfl
def vtup (a : Sn) (t : List Sn) : Int × Int × Int × ByteArray × Bool := (top (bst a t).f2.f0 (a :: t), (bst a t).f2.f1, (bst a t).f2.f2, (bst a t).f2.f3, true)
theorem value_f (k : Nat) (a : Sn) (t : List Sn) (h : t.length < 999999) (hk : t.length + 1 < k) : best_Value.f k (a :: t) = some (vtup a t) := by
  unfold best_Value.f
  rw [best_f k a t (by omega) (by omega)]
  simp only [Option.bind_some, tup]
  exact valueL (a :: t) (by simp; omega) true _ _ _ (t.length + 1) k 0 _ (by simp) hk
theorem value_nil (k : Nat) (hk : 0 < k) : best_Value.f k [] = some (0, 0, 0, ⟨#[]⟩, false) := by
  obtain ⟨k, rfl⟩ : ∃ m, k = m + 1 := ⟨k - 1, by omega⟩
  rfl
theorem refValueL (l : List Sn) (hl : l.length ≤ 1000000) (b : Bool) (p q : Int) (st : ByteArray) : ∀ (d k j : Nat) (v : Int), j + d = l.length → d < k →
    rollcallref11_Value.l0 k l b (j : Int) v p q st = some (top v (l.drop j), p, q, st, b) := by
  intro d
  induction d with
  | zero =>
    intro k j v hj hk
    obtain ⟨k, rfl⟩ : ∃ m, k = m + 1 := ⟨k - 1, by omega⟩
    rw [rollcallref11_Value.l0, if_neg (by omega), List.drop_eq_nil_of_le (by omega)]
    rfl
  | succ d ih =>
    intro k j v hj hk
    obtain ⟨k, rfl⟩ : ∃ m, k = m + 1 := ⟨k - 1, by omega⟩
    rw [rollcallref11_Value.l0, if_pos (by omega), if_pos (by omega), rd_at l j (by omega), drop_get l j (by omega), wrap_succ j (by omega), ih k (j + 1) _ (by omega) (by omega)]
    rfl
theorem refValue_f (k : Nat) (a : Sn) (t : List Sn) (h : t.length < 999999) (hk : t.length + 1 < k) : rollcallref11_Value.f k (a :: t) = some (vtup a t) := by
  unfold rollcallref11_Value.f
  rw [refBest_f k a t (by omega) (by omega)]
  simp only [Option.bind_some, tup]
  exact refValueL (a :: t) (by simp; omega) true _ _ _ (t.length + 1) k 0 _ (by simp) hk
theorem refValue_nil (k : Nat) (hk : 0 < k) : rollcallref11_Value.f k [] = some (0, 0, 0, ⟨#[]⟩, false) := by
  obtain ⟨k, rfl⟩ : ∃ m, k = m + 1 := ⟨k - 1, by omega⟩
  rfl
theorem fewL (l : List Sn) (hl : l.length ≤ 1000000) : ∀ (d k j : Nat), j + d = l.length → d < k → ∃ b, rollcallref09_Few.l0 k l (j : Int) = some b := by
  intro d
  induction d with
  | zero =>
    intro k j hj hk
    obtain ⟨k, rfl⟩ : ∃ m, k = m + 1 := ⟨k - 1, by omega⟩
    rw [rollcallref09_Few.l0, if_neg (by omega)]
    exact ⟨_, rfl⟩
  | succ d ih =>
    intro k j hj hk
    obtain ⟨k, rfl⟩ : ∃ m, k = m + 1 := ⟨k - 1, by omega⟩
    rw [rollcallref09_Few.l0, if_pos (by omega), if_pos (by omega), rd_at l j (by omega), wrap_succ j (by omega)]
    split
    · exact ⟨_, rfl⟩
    · split
      · exact ⟨_, rfl⟩
      · exact ih k (j + 1) (by omega) (by omega)
/-- Of few sessions there are 50 at the most. -/
theorem few_f (k : Nat) (l : List Sn) (hk : 60 ≤ k) : ∃ b, rollcallref09_Few.f k l = some b ∧ (b = true → l.length ≤ 50) := by
  unfold rollcallref09_Few.f
  by_cases c : (l.length : Int) > 50
  · rw [if_pos c]
    exact ⟨_, rfl, fun h => by cases h⟩
  · rw [if_neg c]
    obtain ⟨b, hb⟩ := fewL l (by omega) l.length k 0 (by omega) (by omega)
    exact ⟨b, hb, fun _ => by omega⟩
end Go.Proofs.Ytbapkknjbbaclaa.XV11
