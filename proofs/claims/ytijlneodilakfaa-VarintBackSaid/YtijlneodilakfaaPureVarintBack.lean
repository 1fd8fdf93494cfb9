/- The law VarintBack, of plain functions: what is put is got, wherever it stands; what is got is what was put; no condition. -/
import Derived.Test.YtijlneodilakfaaPAx3
import Derived.Test.YtijlneodilakfaaXV01
namespace Go.Proofs.Ytijlneodilakfaa.Pure
open Go.RowKit Go.Proofs.Ytijlneodilakfaa.PA Go.Proofs.YtijlneodilakfaaW.PrintWords Go.Proofs.YtijlneodilakfaaW.PrintLast Go.Proofs.Ytijlneodilakfaa.XVar Go.Proofs.Ytijlneodilakfaa.XBytes Go.Proofs.Ytijlneodilakfaa.XV01

theorem VarintBack : rollcalllaw01_VarintBack.Pure := by
  intro a0 a1 a2 w0 w1 w2
  obtain ⟨h0, h1⟩ := wf_u64 w0
  refine ⟨43, ?_⟩
  unfold rollcalllaw01_VarintBack.f
  have key : ∀ q : Bool, (q = true ↔ ((a1.size : Int) > 300 ∨ (a2.size : Int) > 300)) → rollcalllaw01_VarintBack.j0 43 a0 a1 a2 q = some true := by
    intro q hq
    rw [rollcalllaw01_VarintBack.j0, live_f 42 (by omega)]
    by_cases c : (a1.size : Int) > 300 ∨ (a2.size : Int) > 300
    · rw [if_pos (hq.2 c)]
      rfl
    · rw [if_neg (fun h => c (hq.1 h)), put_f 42 a0 h0 h1 (by omega)]
      have hP := P_le a0
      have hP1 := P_pos a0
      simp only [Option.bind_some]
      rw [if_pos (by omega), if_pos (by rw [app_size]; omega), get_f _ _ (by rw [app_size, app_size]; omega), G_put _ _ a0 (by omega) h0 h1 (P_in a1 a2 a0 h0), size_f 42 a0 h0 h1 (by omega)]
      simp only [Option.bind_some, if_true]
      rw [wrap_id (a1.size + (P a0).size) (by omega) (by omega), if_pos rfl, if_neg (by omega), rollcalllaw01_VarintBack.j1, if_neg (by simp; omega), get_f a2 0 w2, live_f 41 (by omega)]
      simp only [Option.bind_some]
      rcases G_shape a2 0 with ⟨e, h, he⟩ | ⟨n, q, h, hp, hq1, hq2, hn0, hn1, hlen, hst⟩
      · rw [h]
        simp only
        rw [if_neg (by omega)]
        simp
      · rw [h]
        simp only
        rw [if_pos trivial, if_pos (by omega), if_pos hq2, put_f 41 n hn0 hn1 (by omega)]
        simp only [Option.bind_some]
        rw [if_pos (by omega), if_pos]
        rw [toList_inj]
        have := cut_of_stands (Int.le_refl 0) hst
        rw [← hlen] at this
        exact this.symm
  by_cases c : (a1.size : Int) > 300
  · rw [if_pos c, key true (by simp [c])]
  · rw [if_neg c, key _ (by simp only [decide_eq_true_eq]; omega)]
end Go.Proofs.Ytijlneodilakfaa.Pure
