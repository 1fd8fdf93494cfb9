/- Heaps of slots, without memory: what is put and dropped, who is on top. -/
import Derived.Test.YtejhkadalahcjaaXHeapRTop
namespace Go.Proofs.Ytejhkadalahcjaa.XHeap
open Go.RowKit Go.Proofs.YtejhkadalahcjaaW.PrintWords Go.Proofs.Ytejhkadalahcjaa.XBetter Go.Proofs.Ytejhkadalahcjaa.XMap Go.Proofs.Ytejhkadalahcjaa.PA
set_option linter.unusedVariables false
set_option linter.unusedSimpArgs false
def Bet (s t : Slot) : Prop := s.f1.f0 > t.f1.f0 ∨ (s.f1.f0 = t.f1.f0 ∧ (s.f1.f1 > t.f1.f1 ∨ (s.f1.f1 = t.f1.f1 ∧ (s.f1.f2 > t.f1.f2 ∨ (s.f1.f2 = t.f1.f2 ∧ s.f0 < t.f0)))))
theorem bet_iff (s t : Slot) : bet s t = true ↔ Bet s t := by
  unfold bet Bet lex3 cmpI
  by_cases h0 : s.f1.f0 = t.f1.f0
  · by_cases h1 : s.f1.f1 = t.f1.f1
    · by_cases h2 : s.f1.f2 = t.f1.f2
      · simp [h0, h1, h2]
      · rcases Int.lt_or_gt_of_ne h2 with c | c
        · simp [h0, h1, h2, c]; omega
        · have : ¬ s.f1.f2 < t.f1.f2 := by omega
          simp [h0, h1, h2, c, this]
    · rcases Int.lt_or_gt_of_ne h1 with c | c
      · simp [h0, h1, c]; omega
      · have : ¬ s.f1.f1 < t.f1.f1 := by omega
        simp [h0, h1, c, this]
  · rcases Int.lt_or_gt_of_ne h0 with c | c
    · simp [h0, c]; omega
    · have : ¬ s.f1.f0 < t.f1.f0 := by omega
      simp [h0, c, this]
theorem bet_no (s t : Slot) : bet s t = false ↔ ¬ Bet s t := by
  rw [← bet_iff]; simp
theorem bet_ntrans {a b c : Slot} (h1 : bet a b = false) (h2 : bet b c = false) : bet a c = false := by
  rw [bet_no] at *; unfold Bet at *; omega
theorem bet_asym {a b : Slot} (h : bet a b = true) : bet b a = false := by
  rw [bet_no]; rw [bet_iff] at h; unfold Bet at *; omega
theorem bet_irr (a : Slot) : bet a a = false := by
  rw [bet_no]; unfold Bet; omega
theorem bet_eq {a b : Slot} (h1 : bet a b = false) (h2 : bet b a = false) : a = b := by
  rw [bet_no] at *
  unfold Bet at *
  obtain ⟨a0, a1, a2, a3⟩ := a
  obtain ⟨b0, b1, b2, b3⟩ := b
  simp only at h1 h2
  have e0 : a0 = b0 := by omega
  have e1 : a1 = b1 := by omega
  have e2 : a2 = b2 := by omega
  have e3 : a3 = b3 := by omega
  rw [e0, e1, e2, e3]
theorem bet_trans {a b c : Slot} (h1 : bet a b = true) (h2 : bet b c = true) : bet a c = true := by
  rw [bet_iff] at *; unfold Bet at *; omega
/-- Is a place no better than the one above it? -/
def Up (l : List Slot) (j : Nat) : Prop := bet (at_ l j) (at_ l ((j - 1) / 2)) = false
def Ord (l : List Slot) : Prop := ∀ j, 0 < j → j < l.length → Up l j
def Over (l : List Slot) (i : Nat) : Prop := 0 < i → ∀ c, 0 < c → c < l.length → (c - 1) / 2 = i → bet (at_ l c) (at_ l ((i - 1) / 2)) = false
def Mid (l : List Slot) (i : Nat) : Prop := (∀ j, 0 < j → j < l.length → j ≠ i → (j - 1) / 2 ≠ i → Up l j) ∧ Over l i
def Low (l : List Slot) (i : Nat) : Prop := (∀ j, 0 < j → j < l.length → (j - 1) / 2 ≠ i → Up l j) ∧ Over l i
theorem mid_swap {l : List Slot} {i : Nat} (hi : i < l.length) (h0 : 0 < i) (h : Mid l i) : Mid (swapL l i ((i - 1) / 2)) ((i - 1) / 2) := by
  obtain ⟨h1, h2⟩ := h
  have hp : (i - 1) / 2 < l.length := by omega
  refine ⟨fun j hj0 hj hne hpar => ?_, fun hp0 c hc0 hc hpar => ?_⟩
  · rw [swapL_length] at hj
    unfold Up
    rw [at_swap hi hp, at_swap hi hp, if_neg hne, if_neg hpar]
    have hji : j ≠ i := fun e => hpar (by rw [e])
    rw [if_neg hji]
    by_cases c : (j - 1) / 2 = i
    · rw [if_pos c]
      exact h2 h0 j hj0 hj c
    · rw [if_neg c]
      exact h1 j hj0 hj hji c
  · rw [swapL_length] at hc
    have hcp : c ≠ (i - 1) / 2 := by omega
    have hq : ((i - 1) / 2 - 1) / 2 ≠ (i - 1) / 2 := by omega
    have hq2 : ((i - 1) / 2 - 1) / 2 ≠ i := by omega
    rw [at_swap hi hp, at_swap hi hp, if_neg hcp, if_neg hq, if_neg hq2]
    have hpp := h1 ((i - 1) / 2) hp0 hp (by omega) (by omega)
    by_cases c1 : c = i
    · rw [if_pos c1]; exact hpp
    · rw [if_neg c1]
      have := h1 c hc0 hc c1 (by omega)
      unfold Up at this hpp
      rw [hpar] at this
      exact bet_ntrans this hpp
theorem up_low {l : List Slot} {i : Nat} (hi : i < l.length) (h : Mid l i) : Low (upL l i).1 (upL l i).2 := by
  unfold upL
  split
  · rename_i hc
    exact up_low (by rw [swapL_length]; omega) (mid_swap hi hc.1 h)
  · rename_i hc
    refine ⟨fun j hj0 hj hpar => ?_, h.2⟩
    by_cases c : j = i
    · subst c
      unfold Up
      cases hb : bet (at_ l j) (at_ l ((j - 1) / 2)) with
      | false => rfl
      | true => exact absurd ⟨hj0, hb⟩ hc
    · exact h.1 j hj0 hj c hpar
termination_by i
decreasing_by omega
theorem kidGo_best (l : List Slot) (last k b : Nat) : (∀ j, k ≤ j → j ≤ last → j < l.length → bet (at_ l j) (at_ l (kidGo l last k b)) = false) ∧ bet (at_ l b) (at_ l (kidGo l last k b)) = false ∧ (kidGo l last k b ≠ b → bet (at_ l (kidGo l last k b)) (at_ l b) = true) := by
  unfold kidGo
  split
  · rename_i h
    obtain ⟨h1, h2, h3⟩ := kidGo_best l last (k + 1) (if bet (at_ l k) (at_ l b) = true then k else b)
    generalize hr : kidGo l last (k + 1) (if bet (at_ l k) (at_ l b) = true then k else b) = r at h1 h2 h3 ⊢
    by_cases c : bet (at_ l k) (at_ l b) = true
    · rw [if_pos c] at h2 h3
      refine ⟨fun j hj1 hj2 hj3 => ?_, ?_, fun hne => ?_⟩
      · by_cases e : j = k
        · rw [e]; exact h2
        · exact h1 j (by omega) hj2 hj3
      · exact bet_ntrans (bet_asym c) h2
      · by_cases e : r = k
        · rw [e]; exact c
        · exact bet_trans (h3 e) c
    · rw [if_neg c] at h2 h3
      have c' : bet (at_ l k) (at_ l b) = false := by simpa using c
      refine ⟨fun j hj1 hj2 hj3 => ?_, h2, h3⟩
      by_cases e : j = k
      · rw [e]; exact bet_ntrans c' h2
      · exact h1 j (by omega) hj2 hj3
  · rename_i h
    refine ⟨fun j hj1 hj2 hj3 => absurd ⟨by omega, by omega⟩ h, bet_irr _, fun hne => absurd rfl hne⟩
termination_by last + 1 - k
decreasing_by omega
theorem kid_best (l : List Slot) (i : Nat) : (∀ c, 0 < c → c < l.length → (c - 1) / 2 = i → bet (at_ l c) (at_ l (kid l i)) = false) ∧ bet (at_ l i) (at_ l (kid l i)) = false ∧ (kid l i ≠ i → bet (at_ l (kid l i)) (at_ l i) = true) := by
  obtain ⟨h1, h2, h3⟩ := kidGo_best l (2 * i + 2) (2 * i + 1) i
  exact ⟨fun c hc0 hc hpar => h1 c (by omega) (by omega) hc, h2, h3⟩
theorem kid_par {l : List Slot} {i : Nat} (h : i < kid l i) : (kid l i - 1) / 2 = i := by
  have h1 : kid l i = i ∨ (2 * i + 1 ≤ kid l i ∧ kid l i ≤ 2 * i + 2) := kidGo_in l _ _ _ (fun j => j = i ∨ (2 * i + 1 ≤ j ∧ j ≤ 2 * i + 2)) (.inl rfl) (fun j h1 h2 _ => .inr ⟨h1, h2⟩)
  omega
theorem low_swap {l : List Slot} {i : Nat} (hi : i < l.length) (hk : i < kid l i) (hkl : kid l i < l.length) (h : Low l i) : Low (swapL l i (kid l i)) (kid l i) := by
  obtain ⟨h1, h2⟩ := h
  obtain ⟨k1, k2, k3⟩ := kid_best l i
  have hkp := kid_par hk
  have kb := k3 (by omega)
  generalize kid l i = k at *
  refine ⟨fun j hj0 hj hpar => ?_, fun hk0 c hc0 hc hcp => ?_⟩
  · rw [swapL_length] at hj
    unfold Up
    rw [at_swap hi hkl, at_swap hi hkl, if_neg hpar]
    by_cases c1 : j = k
    · subst c1
      rw [if_pos rfl, if_pos hkp]
      exact k2
    · rw [if_neg c1]
      by_cases c2 : j = i
      · subst c2
        rw [if_pos rfl, if_neg (by omega)]
        exact h2 hj0 k (by omega) hkl hkp
      · rw [if_neg c2]
        by_cases c3 : (j - 1) / 2 = i
        · rw [if_pos c3]
          exact k1 j hj0 hj c3
        · rw [if_neg c3]
          exact h1 j hj0 hj c3
  · rw [swapL_length] at hc
    rw [at_swap hi hkl, at_swap hi hkl, if_neg (by omega), if_neg (by omega), hkp, if_neg (by omega), if_pos rfl]
    have := h1 c hc0 hc (by omega)
    unfold Up at this
    rw [hcp] at this
    exact this
theorem down_ord {l : List Slot} {i : Nat} (hi : i < l.length) (h : Low l i) : Ord (downL l i) := by
  unfold downL
  split
  · rename_i hc
    exact down_ord (by rw [swapL_length]; exact hc.2) (low_swap hi hc.1 hc.2 h)
  · rename_i hc
    intro j hj0 hj
    have hke : kid l i = i := by
      rcases kid_in hi with e | e
      · exact e
      · exact absurd e hc
    by_cases c : (j - 1) / 2 = i
    · have := (kid_best l i).1 j hj0 hj c
      rw [hke] at this
      unfold Up
      rw [c]
      exact this
    · exact h.1 j hj0 hj c
termination_by l.length - i
decreasing_by rw [swapL_length]; omega
theorem up_perm {l : List Slot} {i : Nat} (hi : i < l.length) : (upL l i).1.Perm l := by
  unfold upL
  split
  · exact (up_perm (by rw [swapL_length]; omega)).trans (swap_perm hi (by omega))
  · exact List.Perm.refl _
termination_by i
decreasing_by omega
theorem down_perm {l : List Slot} {i : Nat} (hi : i < l.length) : (downL l i).Perm l := by
  unfold downL
  split
  · rename_i hc
    exact (down_perm (by rw [swapL_length]; exact hc.2)).trans (swap_perm hi hc.2)
  · exact List.Perm.refl _
termination_by l.length - i
decreasing_by rw [swapL_length]; omega
theorem setUp_ok {l : List Slot} {i : Nat} (hi : i < l.length) (h : Mid l i) : Ord (setUp l i) ∧ (setUp l i).Perm l := by
  have h1 : (upL l i).2 < (upL l i).1.length := by rw [upL_length]; exact Nat.lt_of_le_of_lt (upL_le l i) hi
  exact ⟨down_ord h1 (up_low hi h), (down_perm h1).trans (up_perm hi)⟩
theorem mid_set {l : List Slot} (h : Ord l) {i : Nat} (hi : i < l.length) (s : Slot) : Mid (l.set i s) i := by
  refine ⟨fun j hj0 hj hne hpar => ?_, fun h0 c hc0 hc hpar => ?_⟩
  · rw [List.length_set] at hj
    unfold Up
    rw [at_set hi, at_set hi, if_neg hne, if_neg hpar]
    exact h j hj0 hj
  · rw [List.length_set] at hc
    rw [at_set hi, at_set hi, if_neg (by omega), if_neg (by omega)]
    have h1 := h c hc0 hc
    have h2 := h i h0 hi
    unfold Up at h1 h2
    rw [hpar] at h1
    exact bet_ntrans h1 h2
theorem mid_append {l : List Slot} (h : Ord l) (s : Slot) : Mid (l ++ [s]) l.length := by
  refine ⟨fun j hj0 hj hne hpar => ?_, fun h0 c hc0 hc hpar => ?_⟩
  · have hj' : j < l.length := by simp at hj; omega
    unfold Up
    rw [at_append, at_append, if_neg hne, if_neg hpar]
    exact h j hj0 hj'
  · simp at hc
    omega
theorem ord_take {l : List Slot} (h : Ord l) (m : Nat) : Ord (l.take m) := by
  intro j hj0 hj
  rw [List.length_take] at hj
  unfold Up
  rw [at_take (by omega), at_take (by omega)]
  exact h j hj0 (by omega)
def rest (l : List Slot) (i : Nat) : List Slot := l.take i ++ l.drop (i + 1)
theorem set_perm (l : List Slot) {i : Nat} (hi : i < l.length) (s : Slot) : (l.set i s).Perm (s :: rest l i) := by
  rw [List.set_eq_take_append_cons_drop, if_pos hi]
  exact List.perm_middle
theorem at_perm (l : List Slot) {i : Nat} (hi : i < l.length) : l.Perm (at_ l i :: rest l i) := by
  have h1 : l.set i (at_ l i) = l := by
    apply List.ext_getElem?
    intro j
    rw [List.getElem?_set]
    split
    · rename_i e; subst e; simp [at_get hi]
    · rfl
  have := set_perm l hi (at_ l i)
  rwa [h1] at this
theorem cut_perm {l : List Slot} {i m : Nat} (hm : l.length = m + 1) (hi : i ≤ m) : (cutL l i m).Perm (rest l i) := by
  unfold cutL
  have hl : l = l.take m ++ [at_ l m] := by
    have h1 := List.take_append_drop m l
    have h2 : l.drop m = [at_ l m] := by
      rw [List.drop_eq_getElem_cons (by omega)]
      have h3 := at_get (l := l) (i := m) (by omega)
      rw [List.getElem?_eq_getElem (by omega)] at h3
      injection h3 with h3
      rw [h3, List.drop_eq_nil_of_le (by omega)]
    rw [h2] at h1
    exact h1.symm
  by_cases c : i < m
  · rw [if_pos c]
    refine (set_perm (l.take m) (by rw [List.length_take]; omega) (at_ l m)).trans ?_
    have h4 : rest l i = rest (l.take m) i ++ [at_ l m] := by
      unfold rest
      conv => lhs; rw [hl]
      rw [List.take_append_of_le_length (by rw [List.length_take]; omega), List.drop_append_of_le_length (by rw [List.length_take]; omega), List.append_assoc]
    rw [h4]
    exact (List.perm_append_singleton _ _).symm
  · obtain rfl : i = m := by omega
    rw [if_neg c]
    unfold rest
    rw [List.drop_eq_nil_of_le (by omega)]
    simp
theorem ord_cut {l : List Slot} (h : Ord l) {i m : Nat} (hm : l.length = m + 1) (hi : i ≤ m) : Ord (if i < m then setUp (cutL l i m) i else cutL l i m) ∧ (if i < m then setUp (cutL l i m) i else cutL l i m).Perm (rest l i) := by
  by_cases c : i < m
  · rw [if_pos c]
    have hc : cutL l i m = (l.take m).set i (at_ l m) := by unfold cutL; rw [if_pos c]
    have h1 : i < (l.take m).length := by rw [List.length_take]; omega
    have h2 := setUp_ok (l := cutL l i m) (i := i) (by rw [cutL_length _ _ _ hm]; exact c) (by rw [hc]; exact mid_set (ord_take h m) h1 _)
    exact ⟨h2.1, h2.2.trans (cut_perm hm hi)⟩
  · rw [if_neg c]
    refine ⟨?_, cut_perm hm hi⟩
    unfold cutL
    rw [if_neg c]
    exact ord_take h m
/-- On top stands one that nobody is better than. -/
theorem top_best {l : List Slot} (h : Ord l) (i : Nat) (hi : i < l.length) : bet (at_ l i) (at_ l 0) = false := by
  by_cases c : i = 0
  · rw [c]; exact bet_irr _
  · exact bet_ntrans (h i (by omega) hi) (top_best h ((i - 1) / 2) (by omega))
termination_by i
decreasing_by omega
theorem bestTo_best (l : List Slot) (k : Nat) (hk : k < l.length) : bestTo l k ∈ l ∧ ∀ j, j ≤ k → bet (at_ l j) (bestTo l k) = false := by
  induction k with
  | zero => exact ⟨at_mem hk, fun j hj => by obtain rfl : j = 0 := by omega
                                             exact bet_irr _⟩
  | succ k ih =>
    obtain ⟨h1, h2⟩ := ih (by omega)
    unfold bestTo
    by_cases c : bet (at_ l (k + 1)) (bestTo l k) = true
    · rw [if_pos c]
      refine ⟨at_mem hk, fun j hj => ?_⟩
      by_cases e : j = k + 1
      · rw [e]; exact bet_irr _
      · exact bet_ntrans (h2 j (by omega)) (bet_asym c)
    · rw [if_neg c]
      refine ⟨h1, fun j hj => ?_⟩
      by_cases e : j = k + 1
      · rw [e]; simpa using c
      · exact h2 j (by omega)
theorem top_same {l lr : List Slot} (h : Ord l) (hp : l.Perm lr) (hl : 0 < l.length) : at_ l 0 = bestTo lr (lr.length - 1) := by
  have hlr := hp.length_eq
  obtain ⟨h1, h2⟩ := bestTo_best lr (lr.length - 1) (by omega)
  obtain ⟨i, hi, e1⟩ := mem_at (hp.mem_iff.2 h1)
  obtain ⟨j, hj, e2⟩ := mem_at (hp.mem_iff.1 (at_mem (l := l) (i := 0) hl))
  refine bet_eq ?_ ?_
  · rw [← e2]; exact h2 j (by omega)
  · rw [← e1]; exact top_best h i hi
/-- The program's heap and the document's hold the same slots. -/
structure Same (l lr : List Slot) : Prop where
  ord : Ord l
  perm : l.Perm lr
  fine : Fine l
theorem Fine.perm {l lr : List Slot} (h : Fine l) (hp : l.Perm lr) : Fine lr :=
  ⟨(hp.map (·.f0)).nodup_iff.1 h.nd, fun s hs => h.ok s (hp.mem_iff.2 hs), by rw [← hp.length_eq]; exact h.len⟩
theorem Same.ix_none {l lr : List Slot} (h : Same l lr) (x : Int) : ix l x = none ↔ ix lr x = none := by
  have key : ∀ {m m' : List Slot}, m.Perm m' → ix m x = none → ix m' x = none := fun {m m'} hp hn => by
    refine XHeap.ix_none (fun s hs he => ?_)
    obtain ⟨j, hj, rfl⟩ := mem_at (hp.mem_iff.2 hs)
    rw [ix_step_some hj he] at hn
    cases hn
  exact ⟨key h.perm, key h.perm.symm⟩
where
  ix_step_some {m : List Slot} {x : Int} {j : Nat} (hj : j < m.length) (he : (at_ m j).f0 = x) : ix m x = some ((ix m x).getD 0) := by
    cases hix : ix m x with
    | some i => rfl
    | none =>
      unfold ix at hix
      cases hf : m.findIdx? (fun s => decide (s.f0 = x)) with
      | some i => rw [hf] at hix; cases hix
      | none =>
        rw [List.findIdx?_eq_none_iff] at hf
        have := hf _ (at_mem hj)
        simp [he] at this
theorem Same.same_at {l lr : List Slot} (h : Same l lr) {x i j : Int} (hi : ix l x = some i) (hj : ix lr x = some j) : at_ l i.toNat = at_ lr j.toNat := by
  obtain ⟨i, rfl, hil, e1⟩ := ix_some hi
  obtain ⟨j, rfl, hjl, e2⟩ := ix_some hj
  rw [Int.toNat_natCast, Int.toNat_natCast]
  obtain ⟨k, hk, e3⟩ := mem_at (h.perm.mem_iff.1 (at_mem hil))
  have hf := h.fine.perm h.perm
  rw [← e3]
  have : k = j := hf.inj hk hjl (by rw [e3, e1, e2])
  rw [this]
def rputL (l : List Slot) (s : Slot) : List Slot := match ix l s.f0 with
  | some i => l.set i.toNat s
  | none => l ++ [s]
def rdropL (l : List Slot) (id : Int) : List Slot := match ix l id with
  | some i => rest l i.toNat
  | none => l
theorem Same.put {l lr : List Slot} (h : Same l lr) {s : Slot} (hs : i64ok s.f0) (hl : l.length < 4096) : Same (putL l s) (rputL lr s) := by
  unfold putL rputL
  cases hi : ix l s.f0 with
  | none =>
    rw [(h.ix_none s.f0).1 hi]
    unfold putAt
    have h2 := setUp_ok (l := l ++ [s]) (i := l.length) (by simp) (mid_append h.ord s)
    refine ⟨h2.1, h2.2.trans (h.perm.append_right _), ((h.fine.append hs hi hl).perm h2.2.symm)⟩
  | some i =>
    cases hj : ix lr s.f0 with
    | none => rw [(h.ix_none s.f0).2 hj] at hi; cases hi
    | some j =>
      have hsame := h.same_at hi hj
      obtain ⟨i, rfl, hil, e1⟩ := ix_some hi
      obtain ⟨j, rfl, hjl, e2⟩ := ix_some hj
      simp only [putAt, Int.toNat_natCast] at hsame ⊢
      have h2 := setUp_ok (l := l.set i s) (i := i) (by rw [List.length_set]; exact hil) (mid_set h.ord hil s)
      refine ⟨h2.1, h2.2.trans ?_, (h.fine.set hil e1.symm).perm h2.2.symm⟩
      have hr : (rest l i).Perm (rest lr j) := by
        have := (at_perm l hil).symm.trans (h.perm.trans (at_perm lr hjl))
        rw [hsame] at this
        exact this.cons_inv
      exact (set_perm l hil s).trans ((hr.cons s).trans (set_perm lr hjl s).symm)
theorem Same.drop {l lr : List Slot} (h : Same l lr) (id : Int) : Same (dropL l id) (rdropL lr id) := by
  unfold dropL rdropL
  cases hi : ix l id with
  | none => rw [(h.ix_none id).1 hi]; exact h
  | some i =>
    cases hj : ix lr id with
    | none => rw [(h.ix_none id).2 hj] at hi; cases hi
    | some j =>
      have hsame := h.same_at hi hj
      obtain ⟨i, rfl, hil, e1⟩ := ix_some hi
      obtain ⟨j, rfl, hjl, e2⟩ := ix_some hj
      simp only [dropAt, Int.toNat_natCast] at hsame ⊢
      obtain ⟨m, hm⟩ : ∃ m, l.length = m + 1 := ⟨l.length - 1, by omega⟩
      have hm1 : l.length - 1 = m := by omega
      rw [hm1]
      obtain ⟨h1, h2⟩ := ord_cut h.ord hm (by omega : i ≤ m)
      have hr : (rest l i).Perm (rest lr j) := by
        have := (at_perm l hil).symm.trans (h.perm.trans (at_perm lr hjl))
        rw [hsame] at this
        exact this.cons_inv
      refine ⟨h1, h2.trans hr, ?_⟩
      exact (h.fine.cut hm (by omega : i ≤ m)).perm ((cut_perm hm (by omega)).trans h2.symm)
theorem same_nil : Same [] [] := ⟨fun j _ hj => by simp at hj, List.Perm.refl _, fine_nil⟩
end Go.Proofs.Ytejhkadalahcjaa.XHeap
