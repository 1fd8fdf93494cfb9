-- Written by a program of this session (wip/tools/xprint.py), which drives the kit's print.
import Derived.Test.YtijlneodilakfaaProg
import Derived.Below
import Derived.Deep.Draws
import Derived.Deep.AppendLies
import Derived.Maps.AppendAt
import Derived.OwnWalk
import Derived.Laws.BytesArg
import Derived.Laws.MakeOwn
import Derived.Laws.OwnMore
import Derived.Deep.OwnRows
import Derived.Tactics
import Derived.Lib.ConvBytes
import Derived.Laws.Slices
import Derived.WalkKit
import Derived.KernelRfl
import Derived.RowKit3
import Derived.Deep.LoopGhost
import Derived.Deep.QuietTactic
import Derived.BigQuiet
import Derived.WideLaws
import Derived.Deep.DeepCutAuto
import Derived.Deep.CutBlock
import Derived.Deep.RegionHeld3
import Derived.Laws.Rows
import Derived.Lib.AppendStr
import Derived.ArgAppend
import Derived.Laws.IdiomCopy
import Derived.OrdersHeld
import Derived.Laws.BitsLemmas
import Derived.RowKit
import Derived.Test.YtijlneodilakfaaWWords
import Derived.Test.YtijlneodilakfaaWLast
import Derived.Test.YtijlneodilakfaaWTab
import Derived.Test.YtijlneodilakfaaWFour
import Derived.Test.YtijlneodilakfaaWQPut
import Derived.Test.YtijlneodilakfaaWApart
import Derived.Test.YtijlneodilakfaaWArr
import Derived.Test.YtijlneodilakfaaWZeros
import Derived.Test.YtijlneodilakfaaWFoot
import Derived.Test.YtijlneodilakfaaWKept
import Derived.Test.YtijlneodilakfaaWShare
import Derived.Test.YtijlneodilakfaaWN
import Derived.Test.YtijlneodilakfaaWFootNe
import Derived.Test.YtijlneodilakfaaWAt
import Derived.Test.YtijlneodilakfaaWEqStruct
import Derived.Test.YtijlneodilakfaaWRepsOne
import Derived.Test.YtijlneodilakfaaWInv
import Derived.Test.YtijlneodilakfaaWInvWords
import Derived.Test.YtijlneodilakfaaWGuard
import Derived.Test.YtijlneodilakfaaWNEv
import Derived.Test.YtijlneodilakfaaWMore
import Derived.Test.YtijlneodilakfaaXGet
namespace Go.Proofs.Ytijlneodilakfaa.PA
open Go.RowKit Go.Proofs.YtijlneodilakfaaW.PrintWords Go.Proofs.YtijlneodilakfaaW.PrintLast Go.Proofs.YtijlneodilakfaaW.PrintMore
attribute [local go_sem] max2_int min2_int max_two min_two max_three min_three max_four min_four   -- for this text's walks alone
set_option linter.unusedVariables false
set_option linter.unusedSimpArgs false



def errW : Option Int → Value
  | none => .nilIface
  | some c => .iface 0 (.int .i64 c)
theorem errW_none : errW none = .nilIface := rfl
theorem errW_some (c : Int) : errW (some c) = .iface 0 (.int .i64 c) := rfl

theorem info5 : (Try.prog.info? 5).map (fun i => (i.zero, i.size, i.bytes)) = some (some (.int .u8 0), 1, 1) := by kernel_rfl
-- the values' own types

end Go.Proofs.Ytijlneodilakfaa.PA
