/- What the printed functions of net, and of its reference, answer, in plain lists. -/
import Derived.Test.YtgnjbiofjjcioaaPAx1
import Derived.Test.YtgnjbiofjjcioaaPAx2
namespace Go.Proofs.Ytgnjbiofjjcioaa.XV22
open Go.RowKit Go.Proofs.YtgnjbiofjjcioaaW.PrintWords Go.Proofs.YtgnjbiofjjcioaaW.PrintLast Go.Proofs.YtgnjbiofjjcioaaW.PrintMore Go.Proofs.Ytgnjbiofjjcioaa.PA
set_option linter.unusedVariables false
set_option linter.unusedSimpArgs false
theorem wrap_id (n : Int) (h0 : -9223372036854775808 ≤ n) (h1 : n ≤ 9223372036854775807) : wrap64 n = n := by unfold wrap64; omega
theorem live_100 : rollcalllaw22_live.f 100 = some true := by kernel_rfl
theorem live_f (k : Nat) (hk : 100 ≤ k) : rollcalllaw22_live.f k = some true := at_rounds rollcalllaw22_live.mono hk live_100
theorem rdOf_get (l : List ByteArray) (i : Nat) (h : i < l.length) : rdOf ByteArray.empty l (i : Int) = l[i] := by
  unfold rdOf
  rw [Int.toNat_natCast, List.getD_eq_getElem?_getD, List.getElem?_eq_getElem h]
  rfl
theorem few_l (l : List ByteArray) (c : Int) (hl : l.length ≤ 100000) :
    ∀ (d k i : Nat), i + d = l.length → d + 1 ≤ k → (∀ j (h : j < l.length), j < i → (l[j].size : Int) ≤ c) → ∃ b, rollcallref03_Few.l0 k l c (i : Int) = some b ∧ (b = true → ∀ j (h : j < l.length), (l[j].size : Int) ≤ c)
  | 0, k, i, hi, hk, hj => by
    obtain ⟨k, rfl⟩ : ∃ m, k = m + 1 := ⟨k - 1, by omega⟩
    rw [rollcallref03_Few.l0, if_neg (by omega)]
    exact ⟨true, rfl, fun _ j h => hj j h (by omega)⟩
  | d + 1, k, i, hi, hk, hj => by
    obtain ⟨k, rfl⟩ : ∃ m, k = m + 1 := ⟨k - 1, by omega⟩
    have h : i < l.length := by omega
    rw [rollcallref03_Few.l0, if_pos (by omega), if_pos (by omega), rdOf_get l i h]
    by_cases c1 : (l[i].size : Int) > c
    · rw [if_pos c1]
      exact ⟨false, rfl, fun h => absurd h (by simp)⟩
    · rw [if_neg c1, wrap_id _ (by omega) (by omega)]
      exact few_l l c hl d k (i + 1) (by omega) (by omega) (fun j h hji => by
        rcases Nat.lt_or_ge j i with h2 | h2
        · exact hj j h h2
        · have e : j = i := by omega
          subst e; omega)
theorem few (l : List ByteArray) (n : Nat) (c : Int) (k : Nat) (hn : n ≤ 600) (hk : 700 ≤ k) : ∃ b, rollcallref03_Few.f k l (n : Int) c = some b ∧ (b = true → l.length ≤ n ∧ ∀ x ∈ l, (x.size : Int) ≤ c) := by
  unfold rollcallref03_Few.f
  by_cases h : (l.length : Int) > n
  · rw [if_pos h]
    exact ⟨false, rfl, fun h => absurd h (by simp)⟩
  · rw [if_neg h]
    obtain ⟨b, h1, h2⟩ := few_l l c (by omega) l.length k 0 (by omega) (by omega) (fun j h hj => by omega)
    refine ⟨b, h1, fun hb => ⟨by omega, fun x hx => ?_⟩⟩
    obtain ⟨j, hj, rfl⟩ := List.getElem_of_mem hx
    exact h2 hb j hj
theorem same_l (l : List ByteArray) (hl : l.length ≤ 100000) : ∀ (d k i : Nat), i + d = l.length → d + 1 ≤ k → rollcallref03_Same.l0 k l l (i : Int) = some true
  | 0, k, i, hi, hk => by
    obtain ⟨k, rfl⟩ : ∃ m, k = m + 1 := ⟨k - 1, by omega⟩
    rw [rollcallref03_Same.l0, if_neg (by omega)]
  | d + 1, k, i, hi, hk => by
    obtain ⟨k, rfl⟩ : ∃ m, k = m + 1 := ⟨k - 1, by omega⟩
    rw [rollcallref03_Same.l0, if_pos (by omega), if_pos (by omega), if_pos (by omega), if_pos rfl, wrap_id _ (by omega) (by omega)]
    exact same_l l hl d k (i + 1) (by omega) (by omega)
theorem same (l : List ByteArray) (k : Nat) (hl : l.length ≤ 2000) (hk : 2001 ≤ k) : rollcallref03_Same.f k l l = some true := by
  unfold rollcallref03_Same.f
  rw [if_pos rfl]
  exact same_l l (by omega) l.length k 0 (by omega) (by omega)
/-- What Take answers. -/
def T (l : List ByteArray) (i : Int) : ByteArray × List ByteArray × Int := if i < 0 ∨ i ≥ (l.length : Int) then (⟨#[]⟩, l, 6) else (rdOf ByteArray.empty l i, l.eraseIdx i.toNat, 0)
def Tw (l : List ByteArray) (i : Int) : List ByteArray × Int := if i < 0 ∨ i ≥ (l.length : Int) then (l, 6) else if (l.length : Int) ≥ 500 then (l, 5) else (l ++ [rdOf ByteArray.empty l i], 0)
def C (l : List ByteArray) (i p m : Int) : List ByteArray × Int :=
  if i < 0 ∨ i ≥ (l.length : Int) then (l, 6) else
      if (rdOf ByteArray.empty l i).size = 0 ∨ p < 0 ∨ m < 1 ∨ m > 255 then (l, 1) else
      (l.set i.toNat (XCorrupt.spoil (rdOf ByteArray.empty l i) (p % ((rdOf ByteArray.empty l i).size : Int)).toNat m), 0)
theorem there_f (l : List ByteArray) (i : Int) : net_there.f l i = some (decide (¬ (i < 0 ∨ i ≥ (l.length : Int)))) := by
  unfold net_there.f
  by_cases h : i ≥ 0
  · rw [if_pos h]; congr 1; rw [decide_eq_decide]; omega
  · rw [if_neg h]; congr 1; symm; rw [decide_eq_false_iff_not]; omega
theorem takeR_f (l : List ByteArray) (i : Int) (hl : l.length ≤ 5000) : rollcallref22_Take.f l i = some (T l i) := by
  rw [show rollcallref22_Take.f l i = XTakeR.takeF l i from rfl, XTakeR.takeF, if_pos (by omega)]
  rfl
theorem take_f (l : List ByteArray) (i : Int) (hl : l.length ≤ 5000) : net_Take.f l i = some (T l i) := by
  unfold net_Take.f T
  rw [there_f]
  simp only [Option.bind_some]
  by_cases h : i < 0 ∨ i ≥ (l.length : Int)
  · rw [if_neg (by simp [h]), if_pos h]
  · rw [if_pos (by simp; omega), if_pos (by omega), if_pos (by omega), if_neg h, wrap_id _ (by omega) (by omega), show slices_Clone_string_string.f l = some l from by
      show (if _ then _ else _) = _; rw [if_pos (by omega)]]
    simp only [Option.bind_some]
    rw [show slices_Delete_string_string.f l i (i + 1) = some (l.eraseIdx i.toNat) from by
      show (if _ then _ else _) = _; rw [if_pos (by omega)]]
    rfl
theorem drop_f (l : List ByteArray) (i : Int) (hl : l.length ≤ 5000) : net_Drop.f l i = some ((T l i).2.1, (T l i).2.2) := by
  unfold net_Drop.f; rw [take_f l i hl]; rfl
theorem dropR_f (l : List ByteArray) (i : Int) (hl : l.length ≤ 5000) : rollcallref22_Drop.f l i = some ((T l i).2.1, (T l i).2.2) := by
  unfold rollcallref22_Drop.f; rw [takeR_f l i hl]; rfl
theorem send_f (l m : List ByteArray) (hl : l.length ≤ 5000) (hm : m.length ≤ 5000) : net_Send.f l m = some (l ++ m) := by
  unfold net_Send.f
  rw [show slices_Concat_string_string.f [l, m] = some (l ++ m) from by
    show (if _ then _ else _) = _; rw [if_pos (by simp; omega)]; simp]
  rfl
theorem sendR_f (l m : List ByteArray) (hl : l.length ≤ 5000) (hm : m.length ≤ 5000) : rollcallref22_Send.f l m = some (l ++ m) := by
  unfold rollcallref22_Send.f
  simp only [Option.bind_some, List.nil_append, List.length_nil]
  rw [if_pos (by omega), if_pos (by omega)]
theorem twice_f (l : List ByteArray) (i : Int) (hl : l.length ≤ 5000) : net_Twice.f l i = some (Tw l i) := by
  unfold net_Twice.f Tw
  rw [there_f]
  simp only [Option.bind_some]
  by_cases h : i < 0 ∨ i ≥ (l.length : Int)
  · rw [if_neg (by simp [h]), if_pos h]
  · rw [if_pos (by simp; omega), if_neg h]
    by_cases c : (l.length : Int) ≥ 500
    · rw [if_pos c, if_pos c]
    · rw [if_neg c, if_neg c, wrap_id _ (by omega) (by omega), if_pos (by omega), if_pos (by omega), if_pos (by omega)]
      obtain ⟨j, rfl⟩ := Int.eq_ofNat_of_zero_le (show 0 ≤ i by omega)
      have hj : j < l.length := by omega
      have e : (l.take (((j : Int) + 1).toNat)).drop ((j : Int).toNat) = [l[j]] := by
        rw [show ((j : Int) + 1).toNat = j + 1 by omega, Int.toNat_natCast, List.take_succ_eq_append_getElem hj]
        rw [List.drop_append_of_le_length (by rw [List.length_take]; omega), List.drop_of_length_le (by rw [List.length_take]; omega)]
        rfl
      rw [e, send_f _ _ hl (by simp), rdOf_get l j hj]
      rfl
theorem twiceR_f (l : List ByteArray) (i : Int) (k : Nat) (hk : 1 ≤ k) (hl : l.length ≤ 5000) : rollcallref22_Twice.f k l i = some (Tw l i) := by
  obtain ⟨k, rfl⟩ : ∃ m, k = m + 1 := ⟨k - 1, by omega⟩
  have h0 : ∀ q : Bool, (q = true ↔ (i < 0 ∨ i ≥ (l.length : Int))) → rollcallref22_Twice.j0 (k + 1) l i q = some (Tw l i) := by
    intro q hq
    rw [rollcallref22_Twice.j0]
    unfold Tw
    by_cases h : i < 0 ∨ i ≥ (l.length : Int)
    · rw [if_pos (hq.2 h), if_pos h]
    · rw [if_neg (fun h2 => h (hq.1 h2)), if_neg h]
      by_cases c : (l.length : Int) ≥ 500
      · rw [if_pos c, if_pos c]
      · rw [if_neg c, if_neg c, if_pos (by omega), if_pos (by omega), sendR_f _ _ hl (by simp)]
        rfl
  unfold rollcallref22_Twice.f
  by_cases h : i < 0
  · rw [if_pos h]; exact h0 true (by simp [h])
  · rw [if_neg h]; exact h0 _ (by simp; omega)
theorem corrupt_f (l : List ByteArray) (i p m : Int) (hl : l.length ≤ 5000) (hs : ∀ x ∈ l, x.size ≤ 1000) : XCorrupt.corruptF l i p m = some (C l i p m) := by
  unfold XCorrupt.corruptF C
  rw [if_pos]
  refine ⟨by omega, ?_⟩
  unfold rdOf
  rw [List.getD_eq_getElem?_getD]
  cases h : l[i.toNat]? with
  | none => exact Nat.zero_le _
  | some x => have := hs x (List.mem_of_getElem? h); simp; omega
theorem T_len (l : List ByteArray) (i : Int) : (T l i).2.1.length ≤ l.length := by
  unfold T
  split
  · exact Nat.le_refl _
  · exact List.length_eraseIdx_le l _
theorem Tw_len (l : List ByteArray) (i : Int) : (Tw l i).1.length ≤ l.length + 1 := by
  unfold Tw
  split
  · exact Nat.le_succ _
  · split
    · exact Nat.le_succ _
    · simp
theorem C_len (l : List ByteArray) (i p m : Int) : (C l i p m).1.length = l.length := by
  unfold C
  split
  · rfl
  · split
    · rfl
    · simp
theorem corruptN (l : List ByteArray) (i p m : Int) (hl : l.length ≤ 5000) (hs : ∀ x ∈ l, x.size ≤ 1000) : net_Corrupt.f l i p m = some (C l i p m) := corrupt_f l i p m hl hs
theorem corruptR (l : List ByteArray) (i p m : Int) (hl : l.length ≤ 5000) (hs : ∀ x ∈ l, x.size ≤ 1000) : rollcallref22_Corrupt.f l i p m = some (C l i p m) := corrupt_f l i p m hl hs
theorem act (k : Nat) (l0 : List ByteArray) (a1_0 a1_1 : Int) (a1_2 a1_3 : ByteArray) (a1_4 a1_5 a1_6 a1_7 : Int) (a1_8 a1_9 : ByteArray) (a1_10 a1_11 : Int) (a1_12 : ByteArray) (hk : 1 ≤ k) (hl : l0.length ≤ 1000) (hs : ∀ x ∈ l0, x.size ≤ 1000) :
    ∃ r, net_Act.f l0 a1_0 a1_1 a1_2 a1_3 a1_4 a1_5 a1_6 a1_7 a1_8 a1_9 a1_10 a1_11 a1_12 = some r ∧ rollcallref22_Act.f k l0 a1_0 a1_1 a1_2 a1_3 a1_4 a1_5 a1_6 a1_7 a1_8 a1_9 a1_10 a1_11 a1_12 = some r ∧ r.1.length ≤ 1001 := by
  unfold net_Act.f rollcallref22_Act.f
  by_cases c5 : a1_0 = 5
  · rw [if_pos c5, if_pos c5, take_f _ _ (by omega), takeR_f _ _ (by omega)]
    exact ⟨_, rfl, rfl, by have := T_len l0 a1_10; show (T l0 a1_10).2.1.length ≤ _; omega⟩
  · rw [if_neg c5, if_neg c5]
    by_cases c6 : a1_0 = 6
    · rw [if_pos c6, if_pos c6, drop_f _ _ (by omega), dropR_f _ _ (by omega)]
      exact ⟨_, rfl, rfl, by have := T_len l0 a1_10; show (T l0 a1_10).2.1.length ≤ _; omega⟩
    · rw [if_neg c6, if_neg c6]
      by_cases c7 : a1_0 = 7
      · rw [if_pos c7, if_pos c7, twice_f _ _ (by omega), twiceR_f _ _ _ hk (by omega)]
        exact ⟨_, rfl, rfl, by have := Tw_len l0 a1_10; show (Tw l0 a1_10).1.length ≤ _; omega⟩
      · rw [if_neg c7, if_neg c7]
        by_cases c8 : a1_0 = 8
        · rw [if_pos c8, if_pos c8]
          by_cases cm : a1_11 < 0
          · rw [if_pos cm, if_pos cm, there_f]
            simp only [Option.bind_some]
            by_cases h : a1_10 < 0 ∨ a1_10 ≥ (l0.length : Int)
            · rw [if_neg (by simp [h])]
              by_cases h0 : a1_10 < 0
              · rw [if_pos h0]; exact ⟨_, rfl, rfl, by simp; omega⟩
              · rw [if_neg h0, if_pos (by omega)]; exact ⟨_, rfl, rfl, by simp; omega⟩
            · rw [if_pos (by simp; omega), if_neg (by omega), if_neg (by omega)]
              exact ⟨_, rfl, rfl, by simp; omega⟩
          · rw [if_neg cm, if_neg cm, corruptN _ _ _ _ (by omega) hs, corruptR _ _ _ _ (by omega) hs]
            exact ⟨_, rfl, rfl, by simp only [C_len]; omega⟩
        · rw [if_neg c8, if_neg c8]
          exact ⟨_, rfl, rfl, by simp; omega⟩
end Go.Proofs.Ytgnjbiofjjcioaa.XV22
