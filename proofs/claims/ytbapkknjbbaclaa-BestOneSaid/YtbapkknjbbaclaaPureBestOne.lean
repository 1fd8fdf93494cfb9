/- The law BestOne, of plain lists: no session is better than the best one, no show above the value's. -/
import Derived.Test.YtbapkknjbbaclaaPAx11
import Derived.Test.YtbapkknjbbaclaaXV11
namespace Go.Proofs.Ytbapkknjbbaclaa.Pure
open Go.RowKit Go.Proofs.Ytbapkknjbbaclaa.PA Go.Proofs.YtbapkknjbbaclaaW.PrintWords Go.Proofs.YtbapkknjbbaclaaW.PrintLast Go.Proofs.Ytbapkknjbbaclaa.XGen Go.Proofs.Ytbapkknjbbaclaa.XSel Go.Proofs.Ytbapkknjbbaclaa.XV11
set_option linter.unusedVariables false
set_option linter.unusedSimpArgs false
theorem eqB {x s : Sn} : (x.f0.toList == s.f0.toList && (x.f1 == s.f1 && ((x.f2.f0 == s.f2.f0 && (x.f2.f1 == s.f2.f1 && (x.f2.f2 == s.f2.f2 && (x.f2.f3.toList == s.f2.f3.toList))))))) = true ↔ x = s := by
  simp only [Bool.and_eq_true, beq_iff_eq, toList_inj]
  constructor
  · rintro ⟨h0, h1, h2, h3, h4, h5⟩
    obtain ⟨a0, a1, ⟨a2, a3, a4, a5⟩⟩ := x
    obtain ⟨b0, b1, ⟨b2, b3, b4, b5⟩⟩ := s
    simp only at h0 h1 h2 h3 h4 h5
    subst h0; subst h1; subst h2; subst h3; subst h4; subst h5
    rfl
  · rintro rfl
    exact ⟨rfl, rfl, rfl, rfl, rfl, rfl⟩
theorem oneL (l : List Sn) (hl : l.length ≤ 1000000) (s : Sn) (v : Int) (hs : ∀ x ∈ l, ¬ Bt pr si idn x s) (hv : ∀ x ∈ l, x.f2.f0 ≤ v) : ∀ (d k j : Nat) (t u : Bool), j + d = l.length → d + 100 < k →
    (t = true ∨ s ∈ l.drop j) → (u = true ∨ ∃ x ∈ l.drop j, x.f2.f0 = v) →
    rollcalllaw11_BestOne.l0 k l true true t u (j : Int) s.f0 s.f1 s.f2.f0 s.f2.f1 s.f2.f2 s.f2.f3 v s.f2.f1 s.f2.f2 s.f2.f3 = some true := by
  intro d
  induction d with
  | zero =>
    intro k j t u hj hk ht hu
    obtain ⟨k, rfl⟩ : ∃ m, k = m + 1 := ⟨k - 1, by omega⟩
    have e : l.drop j = [] := List.drop_eq_nil_of_le (by omega)
    rw [e] at ht hu
    obtain rfl : t = true := by rcases ht with h | h; exact h; cases h
    obtain rfl : u = true := by rcases hu with h | ⟨x, h, _⟩; exact h; cases h
    rw [rollcalllaw11_BestOne.l0, if_neg (by omega), if_pos rfl, if_pos rfl, if_pos rfl, if_pos rfl, if_pos rfl, if_pos rfl, if_pos rfl, live_f k (by omega)]
    rfl
  | succ d ih =>
    intro k j t u hj hk ht hu
    obtain ⟨k, rfl⟩ : ∃ m, k = m + 1 := ⟨k - 1, by omega⟩
    have hm : l[j] ∈ l := List.getElem_mem _
    rw [rollcalllaw11_BestOne.l0, if_pos (by omega), if_pos (by omega), rd_at l j (by omega)]
    simp only [best_Slot.f, Option.bind_some]
    rw [better_x, wrap_succ j (by omega)]
    simp only [Option.bind_some, decide_eq_true_eq]
    rw [if_neg (hs _ hm), if_neg (by have := hv _ hm; omega)]
    rw [drop_get l j (by omega)] at ht hu
    have ht' : ∀ b : Bool, (b = true ↔ l[j] = s) → t = true ∨ s ∈ l.drop (j + 1) ∨ b = true := by
      intro b hb
      rcases ht with h | h
      · exact .inl h
      · rcases List.mem_cons.1 h with h | h
        · exact .inr (.inr (hb.2 h.symm))
        · exact .inr (.inl h)
    have hu' : u = true ∨ (∃ x ∈ l.drop (j + 1), x.f2.f0 = v) ∨ (l[j].f2.f0 == v) = true := by
      rcases hu with h | ⟨x, h, h2⟩
      · exact .inl h
      · rcases List.mem_cons.1 h with h | h
        · subst h; exact .inr (.inr (by simpa using h2))
        · exact .inr (.inl ⟨x, h, h2⟩)
    have hq := ht' _ (eqB (x := l[j]) (s := s))
    cases t <;> cases u
    · rw [if_neg (by simp), if_neg (by simp)]
      refine ih k (j + 1) _ _ (by omega) (by omega) ?_ ?_
      · rcases hq with h | h | h
        · cases h
        · exact .inr h
        · exact .inl h
      · rcases hu' with h | h | h
        · cases h
        · exact .inr h
        · exact .inl h
    · rw [if_neg (by simp), if_pos rfl]
      refine ih k (j + 1) _ _ (by omega) (by omega) ?_ (.inl rfl)
      rcases hq with h | h | h
      · cases h
      · exact .inr h
      · exact .inl h
    · rw [if_pos rfl, if_neg (by simp)]
      refine ih k (j + 1) _ _ (by omega) (by omega) (.inl rfl) ?_
      rcases hu' with h | h | h
      · cases h
      · exact .inr h
      · exact .inl h
    · rw [if_pos rfl, if_pos rfl]
      exact ih k (j + 1) _ _ (by omega) (by omega) (.inl rfl) (.inl rfl)
theorem BestOne : rollcalllaw11_BestOne.Pure := by
  intro l _ _
  refine ⟨400, ?_⟩
  unfold rollcalllaw11_BestOne.f
  obtain ⟨b, hb, hl⟩ := few_f 400 l (by omega)
  rw [hb]
  simp only [Option.bind_some]
  have hj : ∀ q : Bool, (q = false → l ≠ [] ∧ l.length ≤ 50) → rollcalllaw11_BestOne.j0 400 l q = some true := by
    intro q hq
    rw [show (400 : Nat) = 399 + 1 from rfl, rollcalllaw11_BestOne.j0]
    cases q
    · rw [if_neg (by simp)]
      obtain ⟨hne, h50⟩ := hq rfl
      obtain ⟨a, t, rfl⟩ := List.exists_cons_of_ne_nil hne
      simp only [List.length_cons] at h50
      rw [best_f 399 a t (by omega) (by omega), value_f 399 a t (by omega) (by omega)]
      simp only [Option.bind_some, tup, vtup]
      refine oneL (a :: t) (by simp; omega) (bst a t) _ (best_max pr si idn a t) (top_ge (a :: t) _).2 (t.length + 1) 399 0 false false (by simp) (by omega) (.inr (best_mem pr si idn a t)) ?_
      rcases top_mem (a :: t) (bst a t).f2.f0 with h | h
      · exact .inr ⟨bst a t, best_mem pr si idn a t, h.symm⟩
      · exact .inr h
    · rw [if_pos rfl, live_f 399 (by omega)]
      rfl
  cases b
  · rw [if_neg (by simp)]
    exact hj _ (fun h => by cases h)
  · rw [if_pos rfl]
    refine hj _ (fun h => ⟨fun e => ?_, hl rfl⟩)
    subst e
    cases h
end Go.Proofs.Ytbapkknjbbaclaa.Pure
