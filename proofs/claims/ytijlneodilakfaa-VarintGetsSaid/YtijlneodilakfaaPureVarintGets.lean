/- The law VarintGets, of plain functions: what Get and Take answer is what the reference answers, at every place of every text; no condition. -/
import Derived.Test.YtijlneodilakfaaPAx2
import Derived.Test.YtijlneodilakfaaXV01
namespace Go.Proofs.Ytijlneodilakfaa.Pure
open Go.RowKit Go.Proofs.Ytijlneodilakfaa.PA Go.Proofs.YtijlneodilakfaaW.PrintWords Go.Proofs.YtijlneodilakfaaW.PrintLast Go.Proofs.Ytijlneodilakfaa.XVar Go.Proofs.Ytijlneodilakfaa.XBytes Go.Proofs.Ytijlneodilakfaa.XV01

theorem VarintGets : rollcalllaw01_VarintGets.Pure := by
  intro a0 a1 a2 w0 w1 w2
  have h2 := (wf_i64 w2).2
  refine ⟨40, ?_⟩
  unfold rollcalllaw01_VarintGets.f
  rw [live_f 40 (by omega)]
  by_cases c : (a0.size : Int) > 1000
  · rw [if_pos c]
    rfl
  · rw [if_neg c, get_f a0 a1 w0, refGet_f 40 a0 a1 w0 (by omega), take_f 40 a0 a1 a2 w0 h2 (by omega), refTake_f 40 a0 a1 a2 w0 h2 (by omega)]
    simp only [Option.bind_some, if_true]
end Go.Proofs.Ytijlneodilakfaa.Pure
