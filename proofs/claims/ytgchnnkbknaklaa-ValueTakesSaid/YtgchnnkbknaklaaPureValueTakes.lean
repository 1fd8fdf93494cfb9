/- The law ValueTakes: the program and the reference take the same value at any place of any bytes. -/
import Derived.Test.YtgchnnkbknaklaaPAx8
import Derived.Test.YtgchnnkbknaklaaXV04
namespace Go.Proofs.Ytgchnnkbknaklaa.Pure
open Go.RowKit Go.Proofs.Ytgchnnkbknaklaa.PA Go.Proofs.YtgchnnkbknaklaaW.PrintWords Go.Proofs.YtgchnnkbknaklaaW.PrintLast Go.Proofs.Ytgchnnkbknaklaa.XVar Go.Proofs.Ytgchnnkbknaklaa.XBytes Go.Proofs.Ytgchnnkbknaklaa.XV01 Go.Proofs.Ytgchnnkbknaklaa.XCat Go.Proofs.Ytgchnnkbknaklaa.XV04
set_option linter.unusedVariables false
set_option linter.unusedSimpArgs false
theorem ValueTakes : rollcalllaw04_ValueTakes.Pure := by
  intro s p w0 w1
  have hp := wf_i64 w1
  refine ⟨200, ?_⟩
  unfold rollcalllaw04_ValueTakes.f
  rw [live_f 200 (by omega)]
  by_cases c : (s.size : Int) > 300
  · rw [if_pos c]; rfl
  · rw [if_neg c, take_v 200 s p w0 hp (by omega), refTake_v 200 s p w0 hp (by omega)]
    simp
end Go.Proofs.Ytgchnnkbknaklaa.Pure
