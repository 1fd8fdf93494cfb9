/-
  No cell of these rows narrows 'for every input' (looked for: loops, veiled, ifaces, maps, wideKeys, modest, calm, conditions, laid).
  DERIVED. THE GIVEN ROWS OF THIS SEAT. 6 by the template 'for every input the law returns true; each argument reads behind the call as it read before'; 0 by the template 'total and deterministic' (their statements: YtijlneodilakfaaTotals.lean).
  GIVEN WITH THE SEED: the statements are not yours to turn. If you find one false, say at which input.
  Laid BY PROGRAM, IN A SANDBOX (cutbox-rows.mjs): the forced cells as the released guide's own fill.sh prints them over the translation 0dc980f1e4a748ac… (all of the seat's roots in one cut). By AI agents, Wed Nov 11 2026. No macro, syntax, notation, axiom, sorry.
-/
import Derived.Test.YtijlneodilakfaaChecked
import GoSem.Claim
import GoSem.ClaimJoined
import GoSem.ClaimMapViews
import Derived.JoinedTies
import Derived.KernelRfl
namespace Go.Proofs.Ytijlneodilakfaa
/- THE CELL 'sum', in the pinned program and in every row, IS THE sha256 OF THE DUMP (.gsa) THAT YtijlneodilakfaaProg.lean LOADS. Nothing in Lean hashes anything: it is a label: what it is worth is what the hold of that sum in a sandbox is worth. -/
noncomputable def Try.pinned : Pinned := { name := "ytijlneodilakfaa", sum := "0dc980f1e4a748acdc37fbea8ad21a49ad23aa11cf57936834286dc5930837f2", checked := Try.checked }
namespace Rows
def none {H : Type} : Left H := { results := [], args := [] }

/-- 'rollcalllaw01.VarintPuts': WHATEVER THE INPUT: true; the input reads as it did. -/
def varintPutsSpec : ChangeSpec := { name := "varintPuts", fn := fun _ => fun
  | [d1, d2] => { results := [.lit (.bool true)], args := [d1, d2] }
  | _ => none }
def varintPutsRow : OpenClaim := { program := "ytijlneodilakfaa", sum := "0dc980f1e4a748acdc37fbea8ad21a49ad23aa11cf57936834286dc5930837f2", func := "rollcall/rollcalllaw01.VarintPuts", spec := "varintPuts", apart := false }
def VarintPutsSaid : Prop := varintPutsRow.holds Try.pinned (OpenSpec.ofChange varintPutsSpec)

/-- ITS FALSE NEIGHBOUR: 'it returns false'. Refute it at one input. -/
def varintPutsWrong : ChangeSpec := { name := "varintPuts", fn := fun _ => fun
  | [d1, d2] => { results := [.lit (.bool false)], args := [d1, d2] }
  | _ => none }
def VarintPutsWrongFalsely : Prop := varintPutsRow.holds Try.pinned (OpenSpec.ofChange varintPutsWrong)

/-- 'rollcalllaw01.VarintGets': WHATEVER THE INPUT: true; the input reads as it did. -/
def varintGetsSpec : ChangeSpec := { name := "varintGets", fn := fun _ => fun
  | [d1, d2, d3] => { results := [.lit (.bool true)], args := [d1, d2, d3] }
  | _ => none }
def varintGetsRow : OpenClaim := { program := "ytijlneodilakfaa", sum := "0dc980f1e4a748acdc37fbea8ad21a49ad23aa11cf57936834286dc5930837f2", func := "rollcall/rollcalllaw01.VarintGets", spec := "varintGets", apart := false }
def VarintGetsSaid : Prop := varintGetsRow.holds Try.pinned (OpenSpec.ofChange varintGetsSpec)

/-- ITS FALSE NEIGHBOUR: 'it returns false'. Refute it at one input. -/
def varintGetsWrong : ChangeSpec := { name := "varintGets", fn := fun _ => fun
  | [d1, d2, d3] => { results := [.lit (.bool false)], args := [d1, d2, d3] }
  | _ => none }
def VarintGetsWrongFalsely : Prop := varintGetsRow.holds Try.pinned (OpenSpec.ofChange varintGetsWrong)

/-- 'rollcalllaw01.VarintBack': WHATEVER THE INPUT: true; the input reads as it did. -/
def varintBackSpec : ChangeSpec := { name := "varintBack", fn := fun _ => fun
  | [d1, d2, d3] => { results := [.lit (.bool true)], args := [d1, d2, d3] }
  | _ => none }
def varintBackRow : OpenClaim := { program := "ytijlneodilakfaa", sum := "0dc980f1e4a748acdc37fbea8ad21a49ad23aa11cf57936834286dc5930837f2", func := "rollcall/rollcalllaw01.VarintBack", spec := "varintBack", apart := false }
def VarintBackSaid : Prop := varintBackRow.holds Try.pinned (OpenSpec.ofChange varintBackSpec)

/-- ITS FALSE NEIGHBOUR: 'it returns false'. Refute it at one input. -/
def varintBackWrong : ChangeSpec := { name := "varintBack", fn := fun _ => fun
  | [d1, d2, d3] => { results := [.lit (.bool false)], args := [d1, d2, d3] }
  | _ => none }
def VarintBackWrongFalsely : Prop := varintBackRow.holds Try.pinned (OpenSpec.ofChange varintBackWrong)

/-- 'rollcalllaw01.VarintTexts': WHATEVER THE INPUT: true; the input reads as it did. -/
def varintTextsSpec : ChangeSpec := { name := "varintTexts", fn := fun _ => fun
  | [d1, d2] => { results := [.lit (.bool true)], args := [d1, d2] }
  | _ => none }
def varintTextsRow : OpenClaim := { program := "ytijlneodilakfaa", sum := "0dc980f1e4a748acdc37fbea8ad21a49ad23aa11cf57936834286dc5930837f2", func := "rollcall/rollcalllaw01.VarintTexts", spec := "varintTexts", apart := false }
def VarintTextsSaid : Prop := varintTextsRow.holds Try.pinned (OpenSpec.ofChange varintTextsSpec)

/-- ITS FALSE NEIGHBOUR: 'it returns false'. Refute it at one input. -/
def varintTextsWrong : ChangeSpec := { name := "varintTexts", fn := fun _ => fun
  | [d1, d2] => { results := [.lit (.bool false)], args := [d1, d2] }
  | _ => none }
def VarintTextsWrongFalsely : Prop := varintTextsRow.holds Try.pinned (OpenSpec.ofChange varintTextsWrong)

/-- 'rollcalllaw01.VarintOrder': WHATEVER THE INPUT: true; the input reads as it did. -/
def varintOrderSpec : ChangeSpec := { name := "varintOrder", fn := fun _ => fun
  | [d1, d2] => { results := [.lit (.bool true)], args := [d1, d2] }
  | _ => none }
def varintOrderRow : OpenClaim := { program := "ytijlneodilakfaa", sum := "0dc980f1e4a748acdc37fbea8ad21a49ad23aa11cf57936834286dc5930837f2", func := "rollcall/rollcalllaw01.VarintOrder", spec := "varintOrder", apart := false }
def VarintOrderSaid : Prop := varintOrderRow.holds Try.pinned (OpenSpec.ofChange varintOrderSpec)

/-- ITS FALSE NEIGHBOUR: 'it returns false'. Refute it at one input. -/
def varintOrderWrong : ChangeSpec := { name := "varintOrder", fn := fun _ => fun
  | [d1, d2] => { results := [.lit (.bool false)], args := [d1, d2] }
  | _ => none }
def VarintOrderWrongFalsely : Prop := varintOrderRow.holds Try.pinned (OpenSpec.ofChange varintOrderWrong)

/-- 'rollcalllaw01.VarintLists': WHATEVER THE INPUT: true; the input reads as it did. -/
def varintListsSpec : ChangeSpec := { name := "varintLists", fn := fun _ => fun
  | [d] => { results := [.lit (.bool true)], args := [d] }
  | _ => none }
def varintListsRow : OpenClaim := { program := "ytijlneodilakfaa", sum := "0dc980f1e4a748acdc37fbea8ad21a49ad23aa11cf57936834286dc5930837f2", func := "rollcall/rollcalllaw01.VarintLists", spec := "varintLists", apart := false }
def VarintListsSaid : Prop := varintListsRow.holds Try.pinned (OpenSpec.ofChange varintListsSpec)

/-- ITS FALSE NEIGHBOUR: 'it returns false'. Refute it at one input. -/
def varintListsWrong : ChangeSpec := { name := "varintLists", fn := fun _ => fun
  | [d] => { results := [.lit (.bool false)], args := [d] }
  | _ => none }
def VarintListsWrongFalsely : Prop := varintListsRow.holds Try.pinned (OpenSpec.ofChange varintListsWrong)

/- THE SECOND FORM. 'bulk': how many values and letters a reading holds, each counted each time it is reached (what is shared counts as often as it is met; a slice's spare places count too). A statement '..UptoSaid' is the law's where the arguments, and the package variables that the reading takes, are together of bulk at most 1048576: NARROWER than '..Said'. Prove '..Said' where nothing that the law and all that it calls make is longer than what came in: it says more and counts as full. Else prove '..UptoSaid'. A law counts once. -/
mutual
def uptoBulk {H : Type} : DataW H → Nat
  | .lit (.string bytes) => bytes.length + 1
  | .lit _ => 1
  | .nil => 1
  | .ptr d => uptoBulk d + 1
  | .slice elems spare => uptoBulkAll elems + uptoBulkAll spare + 1
  | .agg parts => uptoBulkAll parts + 1
  | .iface _ d => uptoBulk d + 1
  | .map entries => uptoBulkEntries entries + 1
  | .held _ => 1
def uptoBulkAll {H : Type} : List (DataW H) → Nat
  | [] => 0
  | d :: r => uptoBulk d + uptoBulkAll r
def uptoBulkEntries {H : Type} : List (Lit × DataW H) → Nat
  | [] => 0
  | x :: r => uptoBulkEntry x + uptoBulkEntries r
def uptoBulkEntry {H : Type} : Lit × DataW H → Nat
  | (.string bytes, d) => bytes.length + uptoBulk d + 1
  | (_, d) => uptoBulk d + 1
 end
def uptoSmall : (H : Type) → List (DataW H) → Bool := fun _ ds => decide (uptoBulkAll ds ≤ 1048576)
def OpenSpec.upto (s : _root_.Go.ChangeSpec) : _root_.Go.OpenSpec := { _root_.Go.OpenSpec.ofChange s with cond := some uptoSmall }

/-- 'rollcalllaw01.VarintPuts', WHERE WHAT IT READS IS OF BULK AT MOST 1048576: true; the input reads as it did. -/
def varintPutsUptoRow : OpenClaim := { program := "ytijlneodilakfaa", sum := "0dc980f1e4a748acdc37fbea8ad21a49ad23aa11cf57936834286dc5930837f2", func := "rollcall/rollcalllaw01.VarintPuts", spec := "varintPuts", apart := false, narrowed := true }
def VarintPutsUptoSaid : Prop := varintPutsUptoRow.holds Try.pinned (OpenSpec.upto varintPutsSpec)

/-- 'rollcalllaw01.VarintGets', WHERE WHAT IT READS IS OF BULK AT MOST 1048576: true; the input reads as it did. -/
def varintGetsUptoRow : OpenClaim := { program := "ytijlneodilakfaa", sum := "0dc980f1e4a748acdc37fbea8ad21a49ad23aa11cf57936834286dc5930837f2", func := "rollcall/rollcalllaw01.VarintGets", spec := "varintGets", apart := false, narrowed := true }
def VarintGetsUptoSaid : Prop := varintGetsUptoRow.holds Try.pinned (OpenSpec.upto varintGetsSpec)

/-- 'rollcalllaw01.VarintBack', WHERE WHAT IT READS IS OF BULK AT MOST 1048576: true; the input reads as it did. -/
def varintBackUptoRow : OpenClaim := { program := "ytijlneodilakfaa", sum := "0dc980f1e4a748acdc37fbea8ad21a49ad23aa11cf57936834286dc5930837f2", func := "rollcall/rollcalllaw01.VarintBack", spec := "varintBack", apart := false, narrowed := true }
def VarintBackUptoSaid : Prop := varintBackUptoRow.holds Try.pinned (OpenSpec.upto varintBackSpec)

/-- 'rollcalllaw01.VarintTexts', WHERE WHAT IT READS IS OF BULK AT MOST 1048576: true; the input reads as it did. -/
def varintTextsUptoRow : OpenClaim := { program := "ytijlneodilakfaa", sum := "0dc980f1e4a748acdc37fbea8ad21a49ad23aa11cf57936834286dc5930837f2", func := "rollcall/rollcalllaw01.VarintTexts", spec := "varintTexts", apart := false, narrowed := true }
def VarintTextsUptoSaid : Prop := varintTextsUptoRow.holds Try.pinned (OpenSpec.upto varintTextsSpec)

/-- 'rollcalllaw01.VarintOrder', WHERE WHAT IT READS IS OF BULK AT MOST 1048576: true; the input reads as it did. -/
def varintOrderUptoRow : OpenClaim := { program := "ytijlneodilakfaa", sum := "0dc980f1e4a748acdc37fbea8ad21a49ad23aa11cf57936834286dc5930837f2", func := "rollcall/rollcalllaw01.VarintOrder", spec := "varintOrder", apart := false, narrowed := true }
def VarintOrderUptoSaid : Prop := varintOrderUptoRow.holds Try.pinned (OpenSpec.upto varintOrderSpec)

/-- 'rollcalllaw01.VarintLists', WHERE WHAT IT READS IS OF BULK AT MOST 1048576: true; the input reads as it did. -/
def varintListsUptoRow : OpenClaim := { program := "ytijlneodilakfaa", sum := "0dc980f1e4a748acdc37fbea8ad21a49ad23aa11cf57936834286dc5930837f2", func := "rollcall/rollcalllaw01.VarintLists", spec := "varintLists", apart := false, narrowed := true }
def VarintListsUptoSaid : Prop := varintListsUptoRow.holds Try.pinned (OpenSpec.upto varintListsSpec)

end Rows
end Go.Proofs.Ytijlneodilakfaa
