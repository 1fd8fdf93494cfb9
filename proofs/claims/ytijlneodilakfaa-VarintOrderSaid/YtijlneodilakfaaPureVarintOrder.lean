/- The law VarintOrder, of plain functions: a greater number has no fewer bytes, unlike numbers have unlike bytes, none begins another one's; no condition. -/
import Derived.Test.YtijlneodilakfaaPAx5
import Derived.Test.YtijlneodilakfaaXV01
namespace Go.Proofs.Ytijlneodilakfaa.Pure
open Go.RowKit Go.Proofs.Ytijlneodilakfaa.PA Go.Proofs.YtijlneodilakfaaW.PrintWords Go.Proofs.YtijlneodilakfaaW.PrintLast Go.Proofs.Ytijlneodilakfaa.XVar Go.Proofs.Ytijlneodilakfaa.XBytes Go.Proofs.Ytijlneodilakfaa.XV01

theorem P_inj {a b : Int} (ha : 0 ≤ a) (ha1 : a < 18446744073709551616) (hb : 0 ≤ b) (hb1 : b < 18446744073709551616) (h : digs 10 a <+: digs 10 b) : a = b :=
  digs_prefix 10 a b ha hb (by rw [pw10]; omega) (by rw [pw10]; omega) h
theorem VarintOrder : rollcalllaw01_VarintOrder.Pure := by
  intro a b w0 w1
  obtain ⟨ha, ha1⟩ := wf_u64 w0
  obtain ⟨hb, hb1⟩ := wf_u64 w1
  refine ⟨40, ?_⟩
  unfold rollcalllaw01_VarintOrder.f
  rw [put_f 40 a ha ha1 (by omega), put_f 40 b hb hb1 (by omega), live_f 40 (by omega)]
  simp only [Option.bind_some]
  have e1 : ((a == b) != ((P a).toList == (P b).toList)) = false := by
    by_cases e : a = b
    · subst e
      simp
    · have : ¬ (P a).toList = (P b).toList := by
        rw [toList_inj]
        intro h
        have := nums_inj (digs_range 10 a ha) (digs_range 10 b hb) h
        exact e (P_inj ha ha1 hb hb1 (by rw [this]; exact List.prefix_refl _))
      have e1 : (a == b) = false := beq_eq_false_iff_ne.mpr e
      have e2 : ((P a).toList == (P b).toList) = false := beq_eq_false_iff_ne.mpr this
      rw [e1, e2]
      rfl
  have e2 : ¬ ((P a).size : Int) ≥ (P b).size → ¬ ((P b).extract 0 (P a).size).toList = (P a).toList := by
    intro hlt h
    rw [toList_inj] at h
    unfold P at h hlt
    rw [strOfNums_size, strOfNums_size] at hlt
    rw [strOfNums_size, nums_take] at h
    have h2 := nums_inj (fun x hx => digs_range 10 b hb x (List.mem_of_mem_take hx)) (digs_range 10 a ha) h
    have h3 := P_inj ha ha1 hb hb1 (by rw [← h2]; exact List.take_prefix _ _)
    subst h3
    omega
  have rest : ∀ t : Option Bool, t = some true → (if ((a == b) != ((P a).toList == (P b).toList)) = true then some false else if ((P a).size : Int) ≥ (P b).size then t else if 0 ≤ ((P a).size : Int) then (if ((P a).size : Int) ≤ (P b).size then (if ((P b).extract 0 (P a).size).toList = (P a).toList then some false else t) else none) else none) = some true := by
    rintro t rfl
    rw [e1, if_neg (by simp)]
    by_cases c : ((P a).size : Int) ≥ (P b).size
    · rw [if_pos c]
    · rw [if_neg c, if_pos (by omega), if_pos (by omega), if_neg (e2 c)]
  by_cases c : a < b
  · rw [if_pos c]
    have hm : ¬ ((P a).size : Int) > (P b).size := by
      rw [P_size, P_size]
      have := digs_mono 10 a b ha (by omega) (by rw [pw10]; omega)
      omega
    rw [if_neg hm]
    exact rest _ rfl
  · rw [if_neg c]
    exact rest _ rfl
end Go.Proofs.Ytijlneodilakfaa.Pure
