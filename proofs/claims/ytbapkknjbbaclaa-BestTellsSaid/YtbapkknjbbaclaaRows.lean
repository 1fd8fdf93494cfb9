/-
  No cell of these rows narrows 'for every input' (looked for: loops, veiled, ifaces, maps, wideKeys, modest, calm, conditions, laid).
  DERIVED. THE GIVEN ROWS OF THIS SEAT. 5 by the template 'for every input the law returns true; each argument reads behind the call as it read before'; 0 by the template 'total and deterministic' (their statements: YtbapkknjbbaclaaTotals.lean).
  GIVEN WITH THE SEED: the statements are not yours to turn. If you find one false, say at which input.
  Laid BY PROGRAM, IN A SANDBOX (cutbox-rows.mjs): the forced cells as the released guide's own fill.sh prints them over the translation 70932c6664410744… (all of the seat's roots in one cut). By AI agents, Wed Nov 11 2026. No macro, syntax, notation, axiom, sorry.
-/
import Derived.Test.YtbapkknjbbaclaaChecked
import GoSem.Claim
import GoSem.ClaimJoined
import GoSem.ClaimMapViews
import Derived.JoinedTies
import Derived.KernelRfl
namespace Go.Proofs.Ytbapkknjbbaclaa
/- THE CELL 'sum', in the pinned program and in every row, IS THE sha256 OF THE DUMP (.gsa) THAT YtbapkknjbbaclaaProg.lean LOADS. Nothing in Lean hashes anything: it is a label: what it is worth is what the hold of that sum in a sandbox is worth. -/
noncomputable def Try.pinned : Pinned := { name := "ytbapkknjbbaclaa", sum := "70932c666441074490b95cfe678c9ea51c2c5594bc782b9f4ac2747c2adcf4c5", checked := Try.checked }
namespace Rows
def none {H : Type} : Left H := { results := [], args := [] }

/-- 'rollcalllaw11.BestTells': WHATEVER THE INPUT: true; the input reads as it did. -/
def bestTellsSpec : ChangeSpec := { name := "bestTells", fn := fun _ => fun
  | [d1, d2, d3] => { results := [.lit (.bool true)], args := [d1, d2, d3] }
  | _ => none }
def bestTellsRow : OpenClaim := { program := "ytbapkknjbbaclaa", sum := "70932c666441074490b95cfe678c9ea51c2c5594bc782b9f4ac2747c2adcf4c5", func := "rollcall/rollcalllaw11.BestTells", spec := "bestTells", apart := false }
def BestTellsSaid : Prop := bestTellsRow.holds Try.pinned (OpenSpec.ofChange bestTellsSpec)

/-- ITS FALSE NEIGHBOUR: 'it returns false'. Refute it at one input. -/
def bestTellsWrong : ChangeSpec := { name := "bestTells", fn := fun _ => fun
  | [d1, d2, d3] => { results := [.lit (.bool false)], args := [d1, d2, d3] }
  | _ => none }
def BestTellsWrongFalsely : Prop := bestTellsRow.holds Try.pinned (OpenSpec.ofChange bestTellsWrong)

/-- 'rollcalllaw11.BestOne': WHATEVER THE INPUT: true; the input reads as it did. -/
def bestOneSpec : ChangeSpec := { name := "bestOne", fn := fun _ => fun
  | [d] => { results := [.lit (.bool true)], args := [d] }
  | _ => none }
def bestOneRow : OpenClaim := { program := "ytbapkknjbbaclaa", sum := "70932c666441074490b95cfe678c9ea51c2c5594bc782b9f4ac2747c2adcf4c5", func := "rollcall/rollcalllaw11.BestOne", spec := "bestOne", apart := false }
def BestOneSaid : Prop := bestOneRow.holds Try.pinned (OpenSpec.ofChange bestOneSpec)

/-- ITS FALSE NEIGHBOUR: 'it returns false'. Refute it at one input. -/
def bestOneWrong : ChangeSpec := { name := "bestOne", fn := fun _ => fun
  | [d] => { results := [.lit (.bool false)], args := [d] }
  | _ => none }
def BestOneWrongFalsely : Prop := bestOneRow.holds Try.pinned (OpenSpec.ofChange bestOneWrong)

/-- 'rollcalllaw11.BestMore': WHATEVER THE INPUT: true; the input reads as it did. -/
def bestMoreSpec : ChangeSpec := { name := "bestMore", fn := fun _ => fun
  | [d1, d2] => { results := [.lit (.bool true)], args := [d1, d2] }
  | _ => none }
def bestMoreRow : OpenClaim := { program := "ytbapkknjbbaclaa", sum := "70932c666441074490b95cfe678c9ea51c2c5594bc782b9f4ac2747c2adcf4c5", func := "rollcall/rollcalllaw11.BestMore", spec := "bestMore", apart := false }
def BestMoreSaid : Prop := bestMoreRow.holds Try.pinned (OpenSpec.ofChange bestMoreSpec)

/-- ITS FALSE NEIGHBOUR: 'it returns false'. Refute it at one input. -/
def bestMoreWrong : ChangeSpec := { name := "bestMore", fn := fun _ => fun
  | [d1, d2] => { results := [.lit (.bool false)], args := [d1, d2] }
  | _ => none }
def BestMoreWrongFalsely : Prop := bestMoreRow.holds Try.pinned (OpenSpec.ofChange bestMoreWrong)

/-- 'rollcalllaw11.BestWorth': WHATEVER THE INPUT: true; the input reads as it did. -/
def bestWorthSpec : ChangeSpec := { name := "bestWorth", fn := fun _ => fun
  | [d1, d2, d3] => { results := [.lit (.bool true)], args := [d1, d2, d3] }
  | _ => none }
def bestWorthRow : OpenClaim := { program := "ytbapkknjbbaclaa", sum := "70932c666441074490b95cfe678c9ea51c2c5594bc782b9f4ac2747c2adcf4c5", func := "rollcall/rollcalllaw11.BestWorth", spec := "bestWorth", apart := false }
def BestWorthSaid : Prop := bestWorthRow.holds Try.pinned (OpenSpec.ofChange bestWorthSpec)

/-- ITS FALSE NEIGHBOUR: 'it returns false'. Refute it at one input. -/
def bestWorthWrong : ChangeSpec := { name := "bestWorth", fn := fun _ => fun
  | [d1, d2, d3] => { results := [.lit (.bool false)], args := [d1, d2, d3] }
  | _ => none }
def BestWorthWrongFalsely : Prop := bestWorthRow.holds Try.pinned (OpenSpec.ofChange bestWorthWrong)

/-- 'rollcalllaw11.BestOnly': WHATEVER THE INPUT: true; the input reads as it did. -/
def bestOnlySpec : ChangeSpec := { name := "bestOnly", fn := fun _ => fun
  | [d1, d2] => { results := [.lit (.bool true)], args := [d1, d2] }
  | _ => none }
def bestOnlyRow : OpenClaim := { program := "ytbapkknjbbaclaa", sum := "70932c666441074490b95cfe678c9ea51c2c5594bc782b9f4ac2747c2adcf4c5", func := "rollcall/rollcalllaw11.BestOnly", spec := "bestOnly", apart := false }
def BestOnlySaid : Prop := bestOnlyRow.holds Try.pinned (OpenSpec.ofChange bestOnlySpec)

/-- ITS FALSE NEIGHBOUR: 'it returns false'. Refute it at one input. -/
def bestOnlyWrong : ChangeSpec := { name := "bestOnly", fn := fun _ => fun
  | [d1, d2] => { results := [.lit (.bool false)], args := [d1, d2] }
  | _ => none }
def BestOnlyWrongFalsely : Prop := bestOnlyRow.holds Try.pinned (OpenSpec.ofChange bestOnlyWrong)

/- THE SECOND FORM. 'bulk': how many values and letters a reading holds, each counted each time it is reached (what is shared counts as often as it is met; a slice's spare places count too). A statement '..UptoSaid' is the law's where the arguments, and the package variables that the reading takes, are together of bulk at most 1048576: NARROWER than '..Said'. Prove '..Said' where nothing that the law and all that it calls make is longer than what came in: it says more and counts as full. Else prove '..UptoSaid'. A law counts once. -/
mutual
def uptoBulk {H : Type} : DataW H → Nat
  | .lit (.string bytes) => bytes.length + 1
  | .lit _ => 1
  | .nil => 1
  | .ptr d => uptoBulk d + 1
  | .slice elems spare => uptoBulkAll elems + uptoBulkAll spare + 1
  | .agg parts => uptoBulkAll parts + 1
  | .iface _ d => uptoBulk d + 1
  | .map entries => uptoBulkEntries entries + 1
  | .held _ => 1
def uptoBulkAll {H : Type} : List (DataW H) → Nat
  | [] => 0
  | d :: r => uptoBulk d + uptoBulkAll r
def uptoBulkEntries {H : Type} : List (Lit × DataW H) → Nat
  | [] => 0
  | x :: r => uptoBulkEntry x + uptoBulkEntries r
def uptoBulkEntry {H : Type} : Lit × DataW H → Nat
  | (.string bytes, d) => bytes.length + uptoBulk d + 1
  | (_, d) => uptoBulk d + 1
 end
def uptoSmall : (H : Type) → List (DataW H) → Bool := fun _ ds => decide (uptoBulkAll ds ≤ 1048576)
def OpenSpec.upto (s : _root_.Go.ChangeSpec) : _root_.Go.OpenSpec := { _root_.Go.OpenSpec.ofChange s with cond := some uptoSmall }

/-- 'rollcalllaw11.BestTells', WHERE WHAT IT READS IS OF BULK AT MOST 1048576: true; the input reads as it did. -/
def bestTellsUptoRow : OpenClaim := { program := "ytbapkknjbbaclaa", sum := "70932c666441074490b95cfe678c9ea51c2c5594bc782b9f4ac2747c2adcf4c5", func := "rollcall/rollcalllaw11.BestTells", spec := "bestTells", apart := false, narrowed := true }
def BestTellsUptoSaid : Prop := bestTellsUptoRow.holds Try.pinned (OpenSpec.upto bestTellsSpec)

/-- 'rollcalllaw11.BestOne', WHERE WHAT IT READS IS OF BULK AT MOST 1048576: true; the input reads as it did. -/
def bestOneUptoRow : OpenClaim := { program := "ytbapkknjbbaclaa", sum := "70932c666441074490b95cfe678c9ea51c2c5594bc782b9f4ac2747c2adcf4c5", func := "rollcall/rollcalllaw11.BestOne", spec := "bestOne", apart := false, narrowed := true }
def BestOneUptoSaid : Prop := bestOneUptoRow.holds Try.pinned (OpenSpec.upto bestOneSpec)

/-- 'rollcalllaw11.BestMore', WHERE WHAT IT READS IS OF BULK AT MOST 1048576: true; the input reads as it did. -/
def bestMoreUptoRow : OpenClaim := { program := "ytbapkknjbbaclaa", sum := "70932c666441074490b95cfe678c9ea51c2c5594bc782b9f4ac2747c2adcf4c5", func := "rollcall/rollcalllaw11.BestMore", spec := "bestMore", apart := false, narrowed := true }
def BestMoreUptoSaid : Prop := bestMoreUptoRow.holds Try.pinned (OpenSpec.upto bestMoreSpec)

/-- 'rollcalllaw11.BestWorth', WHERE WHAT IT READS IS OF BULK AT MOST 1048576: true; the input reads as it did. -/
def bestWorthUptoRow : OpenClaim := { program := "ytbapkknjbbaclaa", sum := "70932c666441074490b95cfe678c9ea51c2c5594bc782b9f4ac2747c2adcf4c5", func := "rollcall/rollcalllaw11.BestWorth", spec := "bestWorth", apart := false, narrowed := true }
def BestWorthUptoSaid : Prop := bestWorthUptoRow.holds Try.pinned (OpenSpec.upto bestWorthSpec)

/-- 'rollcalllaw11.BestOnly', WHERE WHAT IT READS IS OF BULK AT MOST 1048576: true; the input reads as it did. -/
def bestOnlyUptoRow : OpenClaim := { program := "ytbapkknjbbaclaa", sum := "70932c666441074490b95cfe678c9ea51c2c5594bc782b9f4ac2747c2adcf4c5", func := "rollcall/rollcalllaw11.BestOnly", spec := "bestOnly", apart := false, narrowed := true }
def BestOnlyUptoSaid : Prop := bestOnlyUptoRow.holds Try.pinned (OpenSpec.upto bestOnlySpec)

end Rows
end Go.Proofs.Ytbapkknjbbaclaa
