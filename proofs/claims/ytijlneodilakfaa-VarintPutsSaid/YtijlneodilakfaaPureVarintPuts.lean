/- The law VarintPuts, of plain functions: what Put, Size and Text answer is what the reference answers, at every number and every text; no condition. -/
import Derived.Test.YtijlneodilakfaaPAx2
import Derived.Test.YtijlneodilakfaaXV01
namespace Go.Proofs.Ytijlneodilakfaa.Pure
open Go.RowKit Go.Proofs.Ytijlneodilakfaa.PA Go.Proofs.YtijlneodilakfaaW.PrintWords Go.Proofs.YtijlneodilakfaaW.PrintLast Go.Proofs.Ytijlneodilakfaa.XVar Go.Proofs.Ytijlneodilakfaa.XBytes Go.Proofs.Ytijlneodilakfaa.XV01

theorem VarintPuts : rollcalllaw01_VarintPuts.Pure := by
  intro a0 a1 w0 w1
  obtain ⟨h0, h1⟩ := wf_u64 w0
  refine ⟨40, ?_⟩
  unfold rollcalllaw01_VarintPuts.f
  rw [live_f 40 (by omega)]
  by_cases c : (a1.size : Int) > 1000
  · rw [if_pos c]
    rfl
  · rw [if_neg c, put_f 40 a0 h0 h1 (by omega), refPut_f 40 a0 h0 h1 (by omega), size_f 40 a0 h0 h1 (by omega), refSize_f 40 a0 h0 h1 (by omega), text_f 40 a1 w1 (by omega), refText_f 40 a1 w1 (by omega)]
    simp only [Option.bind_some, if_true]
end Go.Proofs.Ytijlneodilakfaa.Pure
