/- The law VarintLists, of plain functions: numbers that are put, one behind the other, are got, each from where the one ahead ended; no condition. -/
import Derived.Test.YtijlneodilakfaaPAx5
import Derived.Test.YtijlneodilakfaaXCat
namespace Go.Proofs.Ytijlneodilakfaa.Pure
open Go.RowKit Go.Proofs.Ytijlneodilakfaa.PA Go.Proofs.YtijlneodilakfaaW.PrintWords Go.Proofs.YtijlneodilakfaaW.PrintLast Go.Proofs.Ytijlneodilakfaa.XVar Go.Proofs.Ytijlneodilakfaa.XBytes Go.Proofs.Ytijlneodilakfaa.XV01 Go.Proofs.Ytijlneodilakfaa.XCat
theorem rd_get (l : List Int) (i : Nat) (h : i < l.length) : rd l (i : Int) = l[i] := by
  unfold rd
  rw [Int.toNat_natCast, List.getD_eq_getElem?_getD, List.getElem?_eq_getElem h]
  rfl
theorem lists0 (l : List Int) (hl : l.length ≤ 50) (hw : ∀ x ∈ l, 0 ≤ x ∧ x < 18446744073709551616) (K : Nat) (hK : 20 ≤ K) (hend : ∀ k, K ≤ k → rollcalllaw01_VarintLists.l1 k l (cat (l.map P)) 0 0 = some true) :
    ∀ (d k i : Nat), i + d = l.length → K + d + 1 ≤ k → rollcalllaw01_VarintLists.l0 k l (cat ((l.map P).take i)) (i : Int) = some true
  | 0, k, i, hi, hk => by
    obtain ⟨k, rfl⟩ : ∃ m, k = m + 1 := ⟨k - 1, by omega⟩
    rw [rollcalllaw01_VarintLists.l0, if_neg (by omega), List.take_of_length_le (by rw [List.length_map]; omega)]
    exact hend k (by omega)
  | d + 1, k, i, hi, hk => by
    obtain ⟨k, rfl⟩ : ∃ m, k = m + 1 := ⟨k - 1, by omega⟩
    have h : i < l.length := by omega
    obtain ⟨h0, h1⟩ := hw l[i] (List.getElem_mem h)
    have hs : (cat ((l.map P).take i)).size ≤ 500 := by
      have h3 := cat_take_size (l.map P) i
      have h4 := cat_size (l.map P) 10 (fun a ha => by obtain ⟨x, _, rfl⟩ := List.mem_map.1 ha; exact P_le x)
      rw [List.length_map] at h4
      omega
    have hP := P_le l[i]
    rw [rollcalllaw01_VarintLists.l0, if_pos (by omega), if_pos (by omega), rd_get l i h, put_f k _ h0 h1 (by omega)]
    simp only [Option.bind_some]
    rw [if_pos (by omega), wrap_id (i + 1) (by omega) (by omega), show (i : Int) + 1 = ((i + 1 : Nat) : Int) by omega]
    have := lists0 l hl hw K hK hend d k (i + 1) (by omega) (by omega)
    rw [cat_take (l.map P) i (by rw [List.length_map]; exact h), List.getElem_map] at this
    exact this
theorem lists1 (l : List Int) (hl : l.length ≤ 50) (hw : ∀ x ∈ l, 0 ≤ x ∧ x < 18446744073709551616) :
    ∀ (d k i : Nat), i + d = l.length → 40 + d ≤ k → rollcalllaw01_VarintLists.l1 k l (cat (l.map P)) ((cat ((l.map P).take i)).size : Int) (i : Int) = some true
  | 0, k, i, hi, hk => by
    obtain ⟨k, rfl⟩ : ∃ m, k = m + 1 := ⟨k - 1, by omega⟩
    have hs : (cat (l.map P)).size ≤ 500 := by
      have h4 := cat_size (l.map P) 10 (fun a ha => by obtain ⟨x, _, rfl⟩ := List.mem_map.1 ha; exact P_le x)
      rw [List.length_map] at h4
      omega
    rw [rollcalllaw01_VarintLists.l1, if_neg (by omega), List.take_of_length_le (by rw [List.length_map]; omega), get_f _ _ (by omega), G_end, live_f k (by omega)]
    simp
  | d + 1, k, i, hi, hk => by
    obtain ⟨k, rfl⟩ : ∃ m, k = m + 1 := ⟨k - 1, by omega⟩
    have h : i < l.length := by omega
    have hm : i < (l.map P).length := by rw [List.length_map]; exact h
    obtain ⟨h0, h1⟩ := hw l[i] (List.getElem_mem h)
    have hs : (cat (l.map P)).size ≤ 500 := by
      have h4 := cat_size (l.map P) 10 (fun a ha => by obtain ⟨x, _, rfl⟩ := List.mem_map.1 ha; exact P_le x)
      rw [List.length_map] at h4
      omega
    have hsp := cat_split (l.map P) i hm
    have htk := cat_take (l.map P) i hm
    rw [List.getElem_map] at hsp htk
    have hsz : (cat (l.map P)).size = (cat ((l.map P).take i)).size + (P l[i]).size + (cat ((l.map P).drop (i + 1))).size := by rw [hsp, app_size, app_size]
    have hG : G (cat (l.map P)) (cat ((l.map P).take i)).size = (l[i], ((cat ((l.map P).take i)).size : Int) + (P l[i]).size, 0) := by
      rw [hsp]
      refine G_put _ _ _ (by omega) h0 h1 ?_
      rw [← hsp]
      rw [hsp]
      exact P_in _ _ _ h0
    rw [rollcalllaw01_VarintLists.l1, if_pos (by omega), get_f _ _ (by omega), hG]
    simp only [Option.bind_some]
    rw [if_pos trivial, if_pos (by omega), rd_get l i h, if_pos rfl, size_f k _ h0 h1 (by omega)]
    simp only [Option.bind_some]
    rw [wrap_id _ (by omega) (by omega), if_pos (by omega), if_neg (by omega), wrap_id (i + 1) (by omega) (by omega), show (i : Int) + 1 = ((i + 1 : Nat) : Int) by omega]
    have := lists1 l hl hw d k (i + 1) (by omega) (by omega)
    rw [htk, app_size] at this
    rw [show ((cat ((l.map P).take i)).size : Int) + (P l[i]).size = (((cat ((l.map P).take i)).size + (P l[i]).size : Nat) : Int) by omega]
    exact this
theorem VarintLists : rollcalllaw01_VarintLists.Pure := by
  intro l h1 h2 hw
  refine ⟨200, ?_⟩
  unfold rollcalllaw01_VarintLists.f
  by_cases c : (l.length : Int) > 50
  · rw [if_pos c, live_f 200 (by omega)]
    rfl
  · rw [if_neg c]
    have hw' : ∀ x ∈ l, 0 ≤ x ∧ x < 18446744073709551616 := fun x hx => wf_u64 (hw x hx)
    have := lists0 l (by omega) hw' 100 (by omega) (fun k hk => by
      have := lists1 l (by omega) hw' l.length k 0 (by omega) (by omega)
      exact this) l.length 200 0 (by omega) (by omega)
    exact this
end Go.Proofs.Ytijlneodilakfaa.Pure
