/- The law VarintTexts, of plain functions: texts, one behind the other, are taken as they were, each from where the one ahead ended; cut short, they are not; no condition. -/
import Derived.Test.YtijlneodilakfaaPAx4
import Derived.Test.YtijlneodilakfaaXCat
namespace Go.Proofs.Ytijlneodilakfaa.Pure
open Go.RowKit Go.Proofs.Ytijlneodilakfaa.PA Go.Proofs.YtijlneodilakfaaW.PrintWords Go.Proofs.YtijlneodilakfaaW.PrintLast Go.Proofs.Ytijlneodilakfaa.XVar Go.Proofs.Ytijlneodilakfaa.XBytes Go.Proofs.Ytijlneodilakfaa.XV01 Go.Proofs.Ytijlneodilakfaa.XCat
theorem rdOf_get {α : Type} (d : α) (l : List α) (i : Nat) (h : i < l.length) : rdOf d l (i : Int) = l[i] := by
  unfold rdOf
  rw [Int.toNat_natCast, List.getD_eq_getElem?_getD, List.getElem?_eq_getElem h]
  rfl
theorem X_le (s : ByteArray) (h : s.size ≤ 300) : (X s).size ≤ 310 := by
  rw [X_size]
  have := P_le (s.size : Int)
  omega
theorem texts1 (l : List ByteArray) (c : Int) (hl : l.length ≤ 20) (hw : ∀ x ∈ l, x.size ≤ 300) :
    ∀ (d k i : Nat), i + d = l.length → 100 + 10 * d ≤ k → rollcalllaw01_VarintTexts.l1 k l c (cat (l.map X)) ((cat ((l.map X).take i)).size : Int) (i : Int) = some true
  | 0, k, i, hi, hk => by
    obtain ⟨k, rfl⟩ : ∃ m, k = m + 1 := ⟨k - 1, by omega⟩
    rw [rollcalllaw01_VarintTexts.l1, if_neg (by omega), List.take_of_length_le (by rw [List.length_map]; omega), if_pos rfl, live_f k (by omega)]
    rfl
  | d + 1, k, i, hi, hk => by
    obtain ⟨k, rfl⟩ : ∃ m, k = m + 4 := ⟨k - 4, by omega⟩
    have h : i < l.length := by omega
    have hm : i < (l.map X).length := by rw [List.length_map]; exact h
    have hx := hw l[i] (List.getElem_mem h)
    have hs : (cat (l.map X)).size ≤ 6200 := by
      have h4 := cat_size (l.map X) 310 (fun a ha => by obtain ⟨x, hx, rfl⟩ := List.mem_map.1 ha; exact X_le x (hw x hx))
      rw [List.length_map] at h4
      omega
    have hsp := cat_split (l.map X) i hm
    have htk := cat_take (l.map X) i hm
    rw [List.getElem_map] at hsp htk
    have hsz : (cat (l.map X)).size = (cat ((l.map X).take i)).size + (X l[i]).size + (cat ((l.map X).drop (i + 1))).size := by rw [hsp, app_size, app_size]
    have hX1 : 1 ≤ (X l[i]).size := by rw [X_size]; have := P_pos (l[i].size : Int); omega
    have hT : T (cat (l.map X)) (cat ((l.map X).take i)).size 300 = (l[i], ((cat ((l.map X).take i)).size : Int) + (X l[i]).size, 0) := by
      rw [hsp]
      have := T_text (cat ((l.map X).take i)) l[i] (cat ((l.map X).drop (i + 1))) 300 (by omega) (by omega)
      rw [← hsp]
      rw [← hsp] at this
      exact this
    have ih := texts1 l c hl hw d
    have hnext : ∀ k, 100 + 10 * d ≤ k → rollcalllaw01_VarintTexts.l1 k l c (cat (l.map X)) (((cat ((l.map X).take i)).size : Int) + (X l[i]).size) ((i : Int) + 1) = some true := by
      intro k hk
      have := ih k (i + 1) (by omega) hk
      rw [htk, app_size] at this
      rw [show ((cat ((l.map X).take i)).size : Int) + (X l[i]).size = (((cat ((l.map X).take i)).size + (X l[i]).size : Nat) : Int) by omega, show (i : Int) + 1 = ((i + 1 : Nat) : Int) by omega]
      exact this
    have j4 : ∀ q : Bool, (q = true ↔ ((cat ((l.map X).take i)).size : Int) ≤ c ∧ c < ((cat ((l.map X).take i)).size : Int) + (X l[i]).size) → rollcalllaw01_VarintTexts.j4 (k + 1) l c (cat (l.map X)) ((cat ((l.map X).take i)).size : Int) (i : Int) (((cat ((l.map X).take i)).size : Int) + (X l[i]).size) q = some true := by
      intro q hq
      rw [rollcalllaw01_VarintTexts.j4]
      by_cases hc : ((cat ((l.map X).take i)).size : Int) ≤ c ∧ c < ((cat ((l.map X).take i)).size : Int) + (X l[i]).size
      · rw [if_pos (hq.2 hc), if_pos (by omega), if_pos (by omega)]
        have hcut := T_cut (cat ((l.map X).take i)) l[i] (cat ((l.map X).drop (i + 1))) 300 c.toNat (by omega) (by omega) (by omega) (by omega)
        rw [← hsp] at hcut
        rw [take_f k _ _ 300 (by rw [ext_size]; omega) (by omega) (by omega), hcut]
        simp only [Option.bind_some]
        rw [if_pos trivial, if_pos (by decide +kernel), wrap_id (i + 1) (by omega) (by omega)]
        exact hnext k (by omega)
      · rw [if_neg (fun h => hc (hq.1 h)), wrap_id (i + 1) (by omega) (by omega)]
        exact hnext k (by omega)
    have j3 : rollcalllaw01_VarintTexts.j3 (k + 2) l c (cat (l.map X)) ((cat ((l.map X).take i)).size : Int) (i : Int) (((cat ((l.map X).take i)).size : Int) + (X l[i]).size) false = some true := by
      rw [rollcalllaw01_VarintTexts.j3, if_neg (by simp)]
      by_cases hc : c ≥ ((cat ((l.map X).take i)).size : Int)
      · rw [if_pos hc, j4 _ (by simp only [decide_eq_true_eq]; omega)]
      · rw [if_neg hc, j4 _ (by simp only [Bool.false_eq_true, false_iff]; omega)]
    have j2 : rollcalllaw01_VarintTexts.j2 (k + 3) l c (cat (l.map X)) ((cat ((l.map X).take i)).size : Int) (i : Int) false = some true := by
      rw [rollcalllaw01_VarintTexts.j2, if_neg (by simp), take_f (k + 2) _ _ 300 (by omega) (by omega) (by omega), hT]
      simp only [Option.bind_some]
      rw [if_pos trivial, if_pos (by omega), if_pos (by omega), rdOf_get _ l i h, if_pos rfl, if_neg (by omega), decide_eq_false (by omega)]
      exact j3
    rw [rollcalllaw01_VarintTexts.l1, if_pos (by omega)]
    by_cases hi0 : (i : Int) > 0
    · rw [if_pos hi0]
      have hp := cat_pos (l.map X) i (fun a ha => by obtain ⟨x, _, rfl⟩ := List.mem_map.1 ha; rw [X_size]; have := P_pos (x.size : Int); omega) (by omega) (by omega)
      rw [show (((cat ((l.map X).take i)).size : Int) == 0) = false by rw [beq_eq_false_iff_ne]; omega]
      exact j2
    · rw [if_neg hi0]
      exact j2
theorem texts0 (l : List ByteArray) (c : Int) (hl : l.length ≤ 20) (K : Nat) (hK : 50 ≤ K) (hend : (∀ x ∈ l, x.size ≤ 300) → ∀ k, K ≤ k → rollcalllaw01_VarintTexts.l1 k l c (cat (l.map X)) 0 0 = some true) :
    ∀ (d k i : Nat), i + d = l.length → K + d + 1 ≤ k → (∀ x ∈ l.take i, x.size ≤ 300) → rollcalllaw01_VarintTexts.l0 k l c (cat ((l.map X).take i)) (i : Int) = some true
  | 0, k, i, hi, hk, hw => by
    obtain ⟨k, rfl⟩ : ∃ m, k = m + 1 := ⟨k - 1, by omega⟩
    rw [rollcalllaw01_VarintTexts.l0, if_neg (by omega), List.take_of_length_le (by rw [List.length_map]; omega)]
    exact hend (fun x hx => hw x (by rw [List.take_of_length_le (by omega)]; exact hx)) k (by omega)
  | d + 1, k, i, hi, hk, hw => by
    obtain ⟨k, rfl⟩ : ∃ m, k = m + 1 := ⟨k - 1, by omega⟩
    have h : i < l.length := by omega
    rw [rollcalllaw01_VarintTexts.l0, if_pos (by omega), if_pos (by omega), rdOf_get _ l i h]
    by_cases hx : (l[i].size : Int) > 300
    · rw [if_pos hx, live_f k (by omega)]
      rfl
    · have hs : (cat ((l.map X).take i)).size ≤ 6200 := by
        rw [← List.map_take]
        have h4 := cat_size ((l.take i).map X) 310 (fun a ha => by obtain ⟨x, hx, rfl⟩ := List.mem_map.1 ha; exact X_le x (hw x hx))
        rw [List.length_map, List.length_take] at h4
        have : min i l.length * 310 ≤ 20 * 310 := Nat.mul_le_mul_right _ (by omega)
        omega
      have hX := X_le l[i] (by omega)
      rw [if_neg hx, text_f k _ (by omega) (by omega)]
      simp only [Option.bind_some]
      rw [if_pos (by unfold X at hX; omega), wrap_id (i + 1) (by omega) (by omega), show (i : Int) + 1 = ((i + 1 : Nat) : Int) by omega]
      have := texts0 l c hl K hK hend d k (i + 1) (by omega) (by omega) (fun x hx' => by
        rw [List.take_succ_eq_append_getElem h, List.mem_append, List.mem_singleton] at hx'
        rcases hx' with hx' | rfl
        · exact hw x hx'
        · omega)
      rw [cat_take (l.map X) i (by rw [List.length_map]; exact h), List.getElem_map] at this
      exact this
theorem VarintTexts : rollcalllaw01_VarintTexts.Pure := by
  intro l c h1 h2 h3
  refine ⟨500, ?_⟩
  unfold rollcalllaw01_VarintTexts.f
  by_cases h : (l.length : Int) > 20
  · rw [if_pos h, live_f 500 (by omega)]
    rfl
  · rw [if_neg h]
    have := texts0 l c (by omega) 350 (by omega) (fun hw k hk => by
      have := texts1 l c (by omega) hw l.length k 0 (by omega) (by omega)
      exact this) l.length 500 0 (by omega) (by omega) (by simp)
    exact this
end Go.Proofs.Ytijlneodilakfaa.Pure
