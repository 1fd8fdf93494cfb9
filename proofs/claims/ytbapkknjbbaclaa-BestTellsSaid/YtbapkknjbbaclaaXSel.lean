/- The best one of a list by a strict order of three whole numbers: plain Lean, no program in sight. -/
namespace Go.Proofs.Ytbapkknjbbaclaa.XSel
def B (p1 s1 i1 p2 s2 i2 : Int) : Prop := p1 > p2 ∨ (p1 = p2 ∧ (s1 > s2 ∨ (s1 = s2 ∧ i1 < i2)))
instance (p1 s1 i1 p2 s2 i2 : Int) : Decidable (B p1 s1 i1 p2 s2 i2) := by unfold B; infer_instance
theorem B_iff (p1 s1 i1 p2 s2 i2 : Int) : B p1 s1 i1 p2 s2 i2 ↔ (p1 > p2 ∨ (p1 = p2 ∧ (s1 > s2 ∨ (s1 = s2 ∧ i1 < i2)))) := Iff.rfl
variable {α : Type} (p s i : α → Int)
def Bt (x a : α) : Prop := B (p x) (s x) (i x) (p a) (s a) (i a)
instance (x a : α) : Decidable (Bt p s i x a) := by unfold Bt; infer_instance
def sel (a x : α) : α := if Bt p s i x a then x else a
def best (a : α) (l : List α) : α := l.foldl (sel p s i) a
theorem bt_trans {x y z : α} (h1 : Bt p s i x y) (h2 : Bt p s i y z) : Bt p s i x z := by unfold Bt B at *; omega
theorem bt_neg {x y z : α} (h1 : ¬ Bt p s i x y) (h2 : ¬ Bt p s i y z) : ¬ Bt p s i x z := by unfold Bt B at *; omega
theorem bt_irrefl (x : α) : ¬ Bt p s i x x := by unfold Bt B; omega
theorem bt_asymm {x y : α} (h : Bt p s i x y) : ¬ Bt p s i y x := by unfold Bt B at *; omega
theorem sel_assoc (a b c : α) : sel p s i (sel p s i a b) c = sel p s i a (sel p s i b c) := by
  unfold sel
  by_cases h1 : Bt p s i b a <;> by_cases h2 : Bt p s i c b
  · rw [if_pos h1, if_pos h2, if_pos (bt_trans p s i h2 h1)]
  · rw [if_pos h1, if_neg h2, if_pos h1]
  · rw [if_neg h1, if_pos h2]
  · rw [if_neg h1, if_neg h2, if_neg h1, if_neg (bt_neg p s i h2 h1)]
theorem best_cons (a b : α) (l : List α) : best p s i a (b :: l) = best p s i (sel p s i a b) l := rfl
theorem best_snoc (a b : α) (l : List α) : best p s i a (l ++ [b]) = sel p s i (best p s i a l) b := by simp [best]
theorem best_app (a : α) (l m : List α) : best p s i a (l ++ m) = best p s i (best p s i a l) m := by simp [best]
theorem best_two (a b : α) (l : List α) : best p s i a (b :: l) = sel p s i a (best p s i b l) := by
  induction l generalizing b with
  | nil => rfl
  | cons c l ih => rw [best_cons, best_cons, sel_assoc, best_cons, ← ih]; rfl
theorem best_mem (a : α) (l : List α) : best p s i a l ∈ a :: l := by
  induction l generalizing a with
  | nil => simp [best]
  | cons c l ih =>
    rw [best_cons]
    have := ih (sel p s i a c)
    rcases List.mem_cons.1 this with h | h
    · rw [h]; unfold sel; split <;> simp
    · simp [h]
theorem best_max (a : α) (l : List α) : ∀ x, x ∈ a :: l → ¬ Bt p s i x (best p s i a l) := by
  induction l generalizing a with
  | nil => intro x hx; simp at hx; subst hx; exact bt_irrefl p s i x
  | cons c l ih =>
    intro x hx
    rw [best_cons]
    have hs := ih (sel p s i a c) (sel p s i a c) (by simp)
    rcases List.mem_cons.1 hx with h | h
    · subst h
      refine bt_neg p s i ?_ hs
      unfold sel
      split
      · exact bt_asymm p s i (by assumption)
      · exact bt_irrefl p s i x
    · rcases List.mem_cons.1 h with h | h
      · subst h
        refine bt_neg p s i ?_ hs
        unfold sel
        split
        · exact bt_irrefl p s i x
        · assumption
      · exact ih _ x (by simp [h])
theorem sel_map {β : Type} (f : α → β) (p' s' i' : β → Int) (hp : ∀ x, p' (f x) = p x) (hs : ∀ x, s' (f x) = s x) (hi : ∀ x, i' (f x) = i x) (a b : α) : sel p' s' i' (f a) (f b) = f (sel p s i a b) := by
  have e : Bt p' s' i' (f b) (f a) ↔ Bt p s i b a := by unfold Bt; rw [hp, hp, hs, hs, hi, hi]
  unfold sel
  by_cases c : Bt p s i b a
  · rw [if_pos c, if_pos (e.2 c)]
  · rw [if_neg c, if_neg (fun h => c (e.1 h))]
theorem best_map {β : Type} (f : α → β) (p' s' i' : β → Int) (hp : ∀ x, p' (f x) = p x) (hs : ∀ x, s' (f x) = s x) (hi : ∀ x, i' (f x) = i x) (a : α) (l : List α) : best p' s' i' (f a) (l.map f) = f (best p s i a l) := by
  induction l generalizing a with
  | nil => rfl
  | cons c l ih => rw [List.map_cons, best_cons, best_cons, sel_map p s i f p' s' i' hp hs hi, ih]
end Go.Proofs.Ytbapkknjbbaclaa.XSel
