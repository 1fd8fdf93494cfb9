/- The law BestOnly, of plain lists: one alone is the best one; the best one of two lists is that of the best ones of both; whose users these are is of no moment. -/
import Derived.Test.YtbapkknjbbaclaaPAx13
import Derived.Test.YtbapkknjbbaclaaXV11
namespace Go.Proofs.Ytbapkknjbbaclaa.Pure
open Go.RowKit Go.Proofs.Ytbapkknjbbaclaa.PA Go.Proofs.YtbapkknjbbaclaaW.PrintWords Go.Proofs.YtbapkknjbbaclaaW.PrintLast Go.Proofs.Ytbapkknjbbaclaa.XGen Go.Proofs.Ytbapkknjbbaclaa.XSel Go.Proofs.Ytbapkknjbbaclaa.XV11
set_option linter.unusedVariables false
set_option linter.unusedSimpArgs false
def oth (x : Sn) : Sn := ⟨(⟨#[111, 116, 104, 101, 114]⟩ : ByteArray), x.f1, ⟨x.f2.f0, x.f2.f1, x.f2.f2, x.f2.f3⟩⟩
theorem bst_oth (a : Sn) (t : List Sn) : bst (oth a) (t.map oth) = oth (bst a t) := best_map pr si idn oth pr si idn (fun _ => rfl) (fun _ => rfl) (fun _ => rfl) a t
theorem vtup_oth (a : Sn) (t : List Sn) : vtup (oth a) (t.map oth) = vtup a t := by
  unfold vtup
  rw [bst_oth]
  have h := top_map oth (fun _ => rfl) (a :: t) (bst a t).f2.f0
  rw [List.map_cons] at h
  show (top (bst a t).f2.f0 (oth a :: t.map oth), _) = _
  rw [h]
  rfl
theorem onlyL (a : Sn) (t : List Sn) (hl : t.length ≤ 1000) (c : Sn) : ∀ (d k j : Nat), j + d = (a :: t).length → d + 2000 < k →
    rollcalllaw11_BestOnly.l0 k (a :: t) true true true true true (((a :: t).take j).map oth) (j : Int) a.f2.f0 a.f2.f1 a.f2.f2 a.f2.f3 c.f0 c.f1 c.f2.f0 c.f2.f1 c.f2.f2 c.f2.f3 c.f0 c.f1 c.f2.f0 c.f2.f1 c.f2.f2 c.f2.f3 = some true := by
  intro d
  induction d with
  | zero =>
    intro k j hj hk
    obtain ⟨k, rfl⟩ : ∃ m, k = m + 1 := ⟨k - 1, by omega⟩
    rw [rollcalllaw11_BestOnly.l0, if_neg (by omega), List.take_of_length_le (by omega)]
    have h0 : rd_T34 (a :: t) 0 = a := rfl
    have hv := value_f k (oth a) (t.map oth) (by simp; omega) (by simp; omega)
    rw [vtup_oth] at hv
    rw [value_f k a t (by omega) (by omega), List.map_cons, hv, h0, live_f k (by omega)]
    simp
  | succ d ih =>
    intro k j hj hk
    obtain ⟨k, rfl⟩ : ∃ m, k = m + 1 := ⟨k - 1, by omega⟩
    have hlen : (a :: t).length = t.length + 1 := rfl
    rw [rollcalllaw11_BestOnly.l0, if_pos (by omega), if_pos (by omega), if_pos (by simp; omega), rd_at (a :: t) j (by omega), wrap_succ j (by omega)]
    have e : ((a :: t).take j).map oth ++ [oth (a :: t)[j]] = ((a :: t).take (j + 1)).map oth := by
      rw [List.take_succ_eq_append_getElem (by omega), List.map_append]; rfl
    have := ih k (j + 1) (by omega) (by omega)
    rw [← e] at this
    exact this
theorem BestOnly : rollcalllaw11_BestOnly.Pure := by
  intro l m _ _ _ _
  refine ⟨2200, ?_⟩
  unfold rollcalllaw11_BestOnly.f
  have hj : ∀ q : Bool, (q = false → l ≠ [] ∧ m ≠ [] ∧ l.length ≤ 30 ∧ m.length ≤ 30) → rollcalllaw11_BestOnly.j0 2200 l m q = some true := by
    intro q hq
    rw [show (2200 : Nat) = 2199 + 1 from rfl, rollcalllaw11_BestOnly.j0]
    cases q
    · rw [if_neg (by simp)]
      obtain ⟨h1, h2, h3, h4⟩ := hq rfl
      obtain ⟨a, t, rfl⟩ := List.exists_cons_of_ne_nil h1
      obtain ⟨b, u, rfl⟩ := List.exists_cons_of_ne_nil h2
      simp only [List.length_cons] at h3 h4
      have e1 : (a :: t).take 1 = [a] := rfl
      have e2 : ([] ++ (a :: t)) ++ (b :: u) = a :: (t ++ b :: u) := rfl
      rw [if_pos (by simp; omega), e1, value_f 2199 a [] (by simp) (by simp), best_f 2199 a t (by omega) (by omega), best_f 2199 b u (by omega) (by omega)]
      simp only [Option.bind_some]
      rw [if_pos (by simp; omega), if_pos (by simp; omega), e2, best_f 2199 a (t ++ b :: u) (by simp; omega) (by simp; omega)]
      simp only [Option.bind_some, tup]
      rw [best_f 2199 (bst a t) [bst b u] (by simp) (by simp)]
      simp only [Option.bind_some, tup, vtup]
      have e3 : bst a (t ++ b :: u) = bst (bst a t) [bst b u] := by
        have h5 := best_app pr si idn a t (b :: u)
        have h6 := best_two pr si idn (best pr si idn a t) b u
        exact h5.trans h6
      have e4 : top (bst a []).f2.f0 [a] = a.f2.f0 := by
        show mx a.f2.f0 a.f2.f0 = _
        unfold mx
        split <;> rfl
      rw [e3, e4]
      exact onlyL a t (by omega) (bst (bst a t) [bst b u]) (t.length + 1) 2199 0 (by simp) (by omega)
    · rw [if_pos rfl, live_f 2199 (by omega)]
      rfl
  have ht : rollcalllaw11_BestOnly.j0 2200 l m true = some true := hj true (fun h => by cases h)
  by_cases c1 : (l.length : Int) > 30
  · rw [if_pos c1, ht]
  · rw [if_neg c1]
    by_cases c2 : (m.length : Int) > 30
    · rw [if_pos c2, ht]
    · rw [if_neg c2]
      obtain ⟨b1, hb1, _⟩ := few_f 2200 l (by omega)
      obtain ⟨b2, hb2, _⟩ := few_f 2200 m (by omega)
      rw [hb1, hb2]
      simp only [Option.bind_some]
      cases b1
      · rw [if_neg (by simp), ht]
      · rw [if_pos rfl]
        cases b2
        · rw [if_neg (by simp), ht]
        · rw [if_pos rfl]
          by_cases c3 : (l.length : Int) = 0
          · rw [if_pos c3, ht]
          · rw [if_neg c3]
            refine hj _ (fun h => ⟨?_, ?_, by omega, by omega⟩)
            · intro e; subst e; exact c3 rfl
            · intro e; subst e; cases h
end Go.Proofs.Ytbapkknjbbaclaa.Pure
