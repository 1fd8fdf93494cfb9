/- A region that draws its order, whose operations read what was there before it, and whose calls only make memory: one walk, in the order of the text, serves every order. -/
import Derived.Below
import Derived.Deep.Draws
import Derived.Deep.AppendLies
import Derived.Maps.AppendAt
import Derived.OwnWalk
import Derived.Laws.BytesArg
import Derived.Laws.MakeOwn
import Derived.Laws.OwnMore
import Derived.Deep.OwnRows
import Derived.Tactics
import Derived.Lib.ConvBytes
import Derived.Laws.Slices
import Derived.WalkKit
import Derived.KernelRfl
import Derived.RowKit3
import Derived.Deep.LoopGhost
import Derived.WideLaws
import Derived.Deep.DeepCutAuto
import Derived.Deep.CutBlock
import Derived.Deep.RegionHeld3
import Derived.Laws.Rows
import Derived.Lib.AppendStr
import Derived.ArgAppend
import Derived.Laws.IdiomCopy
import Derived.OrdersHeld
import Derived.Laws.BitsLemmas
import Derived.RowKit
import Derived.Test.YtgchnnkbknaklaaWWords
import Derived.Test.YtgchnnkbknaklaaWLast
import Derived.Test.YtgchnnkbknaklaaWTab
import Derived.Test.YtgchnnkbknaklaaWFour
import Derived.Test.YtgchnnkbknaklaaWQPut
import Derived.Test.YtgchnnkbknaklaaWApart
import Derived.Test.YtgchnnkbknaklaaWArr
import Derived.Test.YtgchnnkbknaklaaWZeros
import Derived.Test.YtgchnnkbknaklaaWFoot
import Derived.Test.YtgchnnkbknaklaaWKept
import Derived.Test.YtgchnnkbknaklaaWShare
import Derived.Test.YtgchnnkbknaklaaWN
import Derived.Test.YtgchnnkbknaklaaWFootNe
import Derived.Test.YtgchnnkbknaklaaWAt
import Derived.Test.YtgchnnkbknaklaaWEqStruct
import Derived.Test.YtgchnnkbknaklaaWRepsOne
import Derived.Test.YtgchnnkbknaklaaWInv
import Derived.Test.YtgchnnkbknaklaaWInvWords
import Derived.Test.YtgchnnkbknaklaaWGuard
import Derived.Test.YtgchnnkbknaklaaWNEv
import Derived.Test.YtgchnnkbknaklaaWMore
import Derived.Deep.QuietTactic
import Derived.BigQuiet
namespace Go.Proofs.Ytgchnnkbknaklaa.XQuiet
open Go.RowKit Go.Proofs.YtgchnnkbknaklaaW.PrintWords Go.Proofs.YtgchnnkbknaklaaW.PrintLast Go.Proofs.YtgchnnkbknaklaaW.PrintMore
/-- A later world in which all that was there is as it was. -/
structure Kin (w : World) where
  at' : World
  bel : Below w.heap.size w at'
instance (w : World) : Nonempty (Kin w) := ⟨⟨w, Below.refl _ _⟩⟩
theorem region_kin {P : Program} {id : Nat} {Q : Exit → Act → World → Prop} {a : Act} {w : World} {l : List Oper} (hm : P.follows .mixedOrders = true) (hB : Region.lexB .any l.toArray = true)
    (h : wpQuiet P l.toArray (fun w' => ∃ u : Kin w, w' = u.at') (fun a' => ∀ w', (∃ u : Kin w, w' = u.at') → Q .normal a' w') l a) : (Code.region id l.toArray true).wp P Q a w :=
  wp_region_quiet (C := fun w' => ∃ u : Kin w, w' = u.at') hm hB ⟨⟨w.drew, below_drew (Below.refl _ _)⟩, rfl⟩ (by simpa using h)
theorem Kin.cell {w : World} {a : Addr} {v : Value} (h : w.cell? a = some v) (u : Kin w) : u.at'.cell? a = some v := pw_cell_below u.bel h
theorem Kin.call {P : Program} {f : FuncId} {args : Array Value} {w : World} {u : Kin w} {v : Value} (h : Calls P f args u.at' fun e w' => e = .returned v ∧ Below u.at'.heap.size u.at' w') :
    Calls P f args u.at' fun e w'' => e = .returned v ∧ ∃ u' : Kin w, w'' = u'.at' :=
  h.mono fun _ w' ⟨he, hb⟩ => ⟨he, ⟨w', below_step u.bel hb⟩, rfl⟩
theorem Kin.same {P : Program} {f : FuncId} {args : Array Value} {w : World} {u : Kin w} {v : Value} (h : Calls P f args u.at' fun e w' => e = .returned v ∧ w' = u.at') :
    Calls P f args u.at' fun e w'' => e = .returned v ∧ ∃ u' : Kin w, w'' = u'.at' :=
  h.mono fun _ w' ⟨he, hb⟩ => ⟨he, ⟨w', hb ▸ u.bel⟩, rfl⟩
end Go.Proofs.Ytgchnnkbknaklaa.XQuiet
