/- The law NetTakes, of plain lists. -/
import Derived.Test.YtgnjbiofjjcioaaPAx5
import Derived.Test.YtgnjbiofjjcioaaXV22
namespace Go.Proofs.Ytgnjbiofjjcioaa.Pure
open Go.RowKit Go.Proofs.Ytgnjbiofjjcioaa.PA Go.Proofs.YtgnjbiofjjcioaaW.PrintWords Go.Proofs.YtgnjbiofjjcioaaW.PrintLast Go.Proofs.Ytgnjbiofjjcioaa.XV22
set_option linter.unusedVariables false
set_option linter.unusedSimpArgs false
/-- What is left of the list without text p, behind i takes. -/
def Y (L : List ByteArray) (p i : Nat) : List ByteArray := if i ≤ p then (L.drop i).eraseIdx (p - i) else L.drop i
theorem T_cons (x : ByteArray) (l : List ByteArray) : T (x :: l) 0 = (x, l, 0) := by
  unfold T
  rw [if_neg (by simp)]
  rfl
theorem drop_get (L : List ByteArray) (i : Nat) (h : i < L.length) : L.drop i = L[i] :: L.drop (i + 1) := List.drop_eq_getElem_cons h
theorem Y_ne (L : List ByteArray) (p i : Nat) (h : i < L.length) (hn : i ≠ p) : Y L p i = L[i] :: Y L p (i + 1) := by
  unfold Y
  by_cases c : i ≤ p
  · rw [if_pos c, if_pos (by omega), drop_get L i h, show p - i = (p - (i + 1)) + 1 by omega]
    rfl
  · rw [if_neg c, if_neg (by omega), drop_get L i h]
theorem Y_eq (L : List ByteArray) (i : Nat) (h : i < L.length) : Y L i i = Y L i (i + 1) := by
  unfold Y
  rw [if_pos (Nat.le_refl _), if_neg (by omega), drop_get L i h, Nat.sub_self]
  rfl
theorem takes0 (L : List ByteArray) (p : Nat) (hL : L.length ≤ 60) (hp : p < L.length) :
    ∀ (d k i : Nat), i + d = L.length → 4 * d + 200 ≤ k → rollcalllaw22_NetTakes.l0 k (p : Int) (L.drop i) L 0 (Y L p i) (i : Int) = some true
  | 0, k, i, hi, hk => by
    obtain ⟨k, rfl⟩ : ∃ n, k = n + 1 := ⟨k - 1, by omega⟩
    have e1 : L.drop i = [] := List.drop_of_length_le (by omega)
    have e2 : Y L p i = [] := by unfold Y; rw [if_neg (by omega)]; exact e1
    rw [rollcalllaw22_NetTakes.l0, if_neg (by omega), e1, if_pos (by simp), if_pos rfl, e2, if_pos (by simp), live_f k (by omega)]
    rfl
  | d + 1, k, i, hi, hk => by
    obtain ⟨k, rfl⟩ : ∃ n, k = n + 3 := ⟨k - 3, by omega⟩
    have h : i < L.length := by omega
    have ih := takes0 L p hL hp d k (i + 1) (by omega) (by omega)
    have hY : (Y L p i).length ≤ 60 := by
      unfold Y
      split
      · have := List.length_eraseIdx_le (L.drop i) (p - i); rw [List.length_drop] at this; omega
      · rw [List.length_drop]; omega
    rw [rollcalllaw22_NetTakes.l0, if_pos (by omega), take_f _ _ (by rw [List.length_drop]; omega), drop_get L i h, T_cons]
    simp only [Option.bind_some]
    rw [if_pos trivial, if_pos (by omega), rdOf_get L i h, bne_self_eq_false, rollcalllaw22_NetTakes.j4, if_neg (by simp), if_pos rfl, rollcalllaw22_NetTakes.j5]
    by_cases c : i = p
    · subst c
      rw [if_neg (by simp), wrap_id _ (by omega) (by omega), Y_eq L i h]
      exact ih
    · rw [if_pos (by simp; omega), take_f _ _ (by omega), Y_ne L p i h c, T_cons]
      simp only [Option.bind_some]
      rw [if_pos trivial, if_pos (by omega), if_pos (by omega), rdOf_get L i h, if_pos rfl, wrap_id _ (by omega) (by omega)]
      exact ih
theorem takes6 (L X : List ByteArray) (x2 : Int) (hL : L.length ≤ 60) :
    ∀ (d k i : Nat), i + d = L.length → 4 * d + 200 ≤ k → rollcalllaw22_NetTakes.l0 k x2 (L.drop i) L 6 X (i : Int) = some true
  | 0, k, i, hi, hk => by
    obtain ⟨k, rfl⟩ : ∃ n, k = n + 1 := ⟨k - 1, by omega⟩
    have e1 : L.drop i = [] := List.drop_of_length_le (by omega)
    rw [rollcalllaw22_NetTakes.l0, if_neg (by omega), e1, if_pos (by simp), if_neg (by decide), live_f k (by omega)]
    rfl
  | d + 1, k, i, hi, hk => by
    obtain ⟨k, rfl⟩ : ∃ n, k = n + 3 := ⟨k - 3, by omega⟩
    have h : i < L.length := by omega
    have ih := takes6 L X x2 hL d k (i + 1) (by omega) (by omega)
    rw [rollcalllaw22_NetTakes.l0, if_pos (by omega), take_f _ _ (by rw [List.length_drop]; omega), drop_get L i h, T_cons]
    simp only [Option.bind_some]
    rw [if_pos trivial, if_pos (by omega), rdOf_get L i h, bne_self_eq_false, rollcalllaw22_NetTakes.j4, if_neg (by simp), if_neg (by decide), rollcalllaw22_NetTakes.j5, if_neg (by simp), wrap_id _ (by omega) (by omega)]
    exact ih
theorem takes (k : Nat) (hk : 3000 ≤ k) (l m : List ByteArray) (x2 : Int) (q : Bool) (h : q = false → l.length ≤ 30 ∧ m.length ≤ 30) : rollcalllaw22_NetTakes.j0 (k + 3) l m x2 q = some true := by
  rw [rollcalllaw22_NetTakes.j0]
  cases q
  · obtain ⟨h0, h1⟩ := h rfl
    have hs : net_Send.f l m = some (([] : List ByteArray) ++ l ++ m) := by rw [send_f _ _ (by omega) (by omega)]; rfl
    have hl : (([] : List ByteArray) ++ l ++ m).length ≤ 60 := by simp; omega
    rw [if_neg (by simp), hs]
    simp only [Option.bind_some]
    rw [if_pos (by simp; omega), if_pos (by simp; omega)]
    clear hs
    generalize ([] : List ByteArray) ++ l ++ m = L at hl ⊢
    rw [twice_f _ _ (by omega), drop_f _ _ (by omega)]
    simp only [Option.bind_some]
    by_cases c : x2 < 0 ∨ x2 ≥ (L.length : Int)
    · have e1 : Tw L x2 = (L, 6) := by unfold Tw; rw [if_pos c]
      have e2 : T L x2 = (⟨#[]⟩, L, 6) := by unfold T; rw [if_pos c]
      have h6 := takes6 L L x2 hl L.length k 0 (by omega) (by omega)
      have j1 : rollcalllaw22_NetTakes.j1 (k + 2) x2 L L L 6 L false = some true := by
        rw [rollcalllaw22_NetTakes.j1, if_neg (by simp), if_neg (by decide), rollcalllaw22_NetTakes.j2, if_neg (by simp)]
        exact h6
      rw [e1, e2]
      by_cases c0 : x2 ≥ 0
      · rw [if_pos c0, if_neg (by simp; omega)]
        exact j1
      · rw [if_neg c0, if_neg (by simp)]
        exact j1
    · obtain ⟨p, rfl⟩ := Int.eq_ofNat_of_zero_le (show 0 ≤ x2 by omega)
      have hp : p < L.length := by omega
      have e1 : Tw L (p : Int) = (L ++ [L[p]], 0) := by unfold Tw; rw [if_neg c, if_neg (by omega), rdOf_get L p hp]
      have e2 : T L (p : Int) = (L[p], L.eraseIdx p, 0) := by unfold T; rw [if_neg c, rdOf_get L p hp, Int.toNat_natCast]
      have h0 := takes0 L p hl hp L.length k 0 (by omega) (by omega)
      have hx : L.length < (L ++ [L[p]]).length := by simp
      have j1 : rollcalllaw22_NetTakes.j1 (k + 2) (p : Int) L L (L ++ [L[p]]) 0 (L.eraseIdx p) false = some true := by
        have el : (L.eraseIdx p).length = L.length - 1 := List.length_eraseIdx_of_lt hp
        rw [rollcalllaw22_NetTakes.j1, if_neg (by simp), if_pos rfl, wrap_id _ (by omega) (by omega), if_pos (by simp), if_pos (by omega), if_pos (by omega), if_pos (by omega), if_pos (by omega), rdOf_get L p hp, rdOf_get _ L.length hx, if_pos (by simp), wrap_id _ (by omega) (by omega), el]
        rw [show (((L.length - 1 : Nat) : Int) != (L.length : Int) - 1) = false by simp; omega, rollcalllaw22_NetTakes.j2, if_neg (by simp)]
        have e3 : Y L p 0 = L.eraseIdx p := by unfold Y; rw [if_pos (by omega)]; rfl
        rw [e3] at h0
        exact h0
      rw [e1, e2, if_pos (by omega), if_neg (by simp; omega)]
      exact j1
  · rw [if_pos rfl, live_f _ (by omega)]; rfl
theorem NetTakes : rollcalllaw22_NetTakes.Pure := by
  intro l0 l1 a2 _ _ _ _ _
  refine ⟨3003, ?_⟩
  unfold rollcalllaw22_NetTakes.f
  obtain ⟨b, h1, h2⟩ := few l0 30 100 3003 (by omega) (by omega)
  obtain ⟨c, h3, h4⟩ := few l1 30 100 3003 (by omega) (by omega)
  rw [show (30 : Int) = ((30 : Nat) : Int) from rfl, h1]
  simp only [Option.bind_some]
  cases b
  · rw [if_neg (by simp)]; exact takes 3000 (by omega) _ _ _ _ (by simp)
  · rw [if_pos rfl, h3]
    simp only [Option.bind_some]
    refine takes 3000 (by omega) _ _ _ _ (fun h => ⟨(h2 rfl).1, (h4 ?_).1⟩)
    cases c <;> simp at h ⊢
end Go.Proofs.Ytgnjbiofjjcioaa.Pure
