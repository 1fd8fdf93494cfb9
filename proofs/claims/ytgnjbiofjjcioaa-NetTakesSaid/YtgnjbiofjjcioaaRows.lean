/-
  No cell of these rows narrows 'for every input' (looked for: loops, veiled, ifaces, maps, wideKeys, modest, calm, conditions, laid).
  DERIVED. THE GIVEN ROWS OF THIS SEAT. 5 by the template 'for every input the law returns true; each argument reads behind the call as it read before'; 0 by the template 'total and deterministic' (their statements: YtgnjbiofjjcioaaTotals.lean).
  GIVEN WITH THE SEED: the statements are not yours to turn. If you find one false, say at which input.
  Laid BY PROGRAM, IN A SANDBOX (cutbox-rows.mjs): the forced cells as the released guide's own fill.sh prints them over the translation 4f3e93c8aaa63aa5… (all of the seat's roots in one cut). By AI agents, Wed Nov 11 2026. No macro, syntax, notation, axiom, sorry.
-/
import Derived.Test.YtgnjbiofjjcioaaChecked
import GoSem.Claim
import GoSem.ClaimJoined
import GoSem.ClaimMapViews
import Derived.JoinedTies
import Derived.KernelRfl
namespace Go.Proofs.Ytgnjbiofjjcioaa
/- THE CELL 'sum', in the pinned program and in every row, IS THE sha256 OF THE DUMP (.gsa) THAT YtgnjbiofjjcioaaProg.lean LOADS. Nothing in Lean hashes anything: it is a label: what it is worth is what the hold of that sum in a sandbox is worth. -/
noncomputable def Try.pinned : Pinned := { name := "ytgnjbiofjjcioaa", sum := "4f3e93c8aaa63aa54b2d59e6318ef0575af030c745ef34021229ba97a3adf8db", checked := Try.checked }
namespace Rows
def none {H : Type} : Left H := { results := [], args := [] }

/-- 'rollcalllaw22.NetDoes': WHATEVER THE INPUT: true; the input reads as it did. -/
def netDoesSpec : ChangeSpec := { name := "netDoes", fn := fun _ => fun
  | [d1, d2, d3] => { results := [.lit (.bool true)], args := [d1, d2, d3] }
  | _ => none }
def netDoesRow : OpenClaim := { program := "ytgnjbiofjjcioaa", sum := "4f3e93c8aaa63aa54b2d59e6318ef0575af030c745ef34021229ba97a3adf8db", func := "rollcall/rollcalllaw22.NetDoes", spec := "netDoes", apart := false }
def NetDoesSaid : Prop := netDoesRow.holds Try.pinned (OpenSpec.ofChange netDoesSpec)

/-- ITS FALSE NEIGHBOUR: 'it returns false'. Refute it at one input. -/
def netDoesWrong : ChangeSpec := { name := "netDoes", fn := fun _ => fun
  | [d1, d2, d3] => { results := [.lit (.bool false)], args := [d1, d2, d3] }
  | _ => none }
def NetDoesWrongFalsely : Prop := netDoesRow.holds Try.pinned (OpenSpec.ofChange netDoesWrong)

/-- 'rollcalllaw22.NetMoves': WHATEVER THE INPUT: true; the input reads as it did. -/
def netMovesSpec : ChangeSpec := { name := "netMoves", fn := fun _ => fun
  | [d1, d2, d3] => { results := [.lit (.bool true)], args := [d1, d2, d3] }
  | _ => none }
def netMovesRow : OpenClaim := { program := "ytgnjbiofjjcioaa", sum := "4f3e93c8aaa63aa54b2d59e6318ef0575af030c745ef34021229ba97a3adf8db", func := "rollcall/rollcalllaw22.NetMoves", spec := "netMoves", apart := false }
def NetMovesSaid : Prop := netMovesRow.holds Try.pinned (OpenSpec.ofChange netMovesSpec)

/-- ITS FALSE NEIGHBOUR: 'it returns false'. Refute it at one input. -/
def netMovesWrong : ChangeSpec := { name := "netMoves", fn := fun _ => fun
  | [d1, d2, d3] => { results := [.lit (.bool false)], args := [d1, d2, d3] }
  | _ => none }
def NetMovesWrongFalsely : Prop := netMovesRow.holds Try.pinned (OpenSpec.ofChange netMovesWrong)

/-- 'rollcalllaw22.NetBack': WHATEVER THE INPUT: true; the input reads as it did. -/
def netBackSpec : ChangeSpec := { name := "netBack", fn := fun _ => fun
  | [d1, d2, d3] => { results := [.lit (.bool true)], args := [d1, d2, d3] }
  | _ => none }
def netBackRow : OpenClaim := { program := "ytgnjbiofjjcioaa", sum := "4f3e93c8aaa63aa54b2d59e6318ef0575af030c745ef34021229ba97a3adf8db", func := "rollcall/rollcalllaw22.NetBack", spec := "netBack", apart := false }
def NetBackSaid : Prop := netBackRow.holds Try.pinned (OpenSpec.ofChange netBackSpec)

/-- ITS FALSE NEIGHBOUR: 'it returns false'. Refute it at one input. -/
def netBackWrong : ChangeSpec := { name := "netBack", fn := fun _ => fun
  | [d1, d2, d3] => { results := [.lit (.bool false)], args := [d1, d2, d3] }
  | _ => none }
def NetBackWrongFalsely : Prop := netBackRow.holds Try.pinned (OpenSpec.ofChange netBackWrong)

/-- 'rollcalllaw22.NetTakes': WHATEVER THE INPUT: true; the input reads as it did. -/
def netTakesSpec : ChangeSpec := { name := "netTakes", fn := fun _ => fun
  | [d1, d2, d3] => { results := [.lit (.bool true)], args := [d1, d2, d3] }
  | _ => none }
def netTakesRow : OpenClaim := { program := "ytgnjbiofjjcioaa", sum := "4f3e93c8aaa63aa54b2d59e6318ef0575af030c745ef34021229ba97a3adf8db", func := "rollcall/rollcalllaw22.NetTakes", spec := "netTakes", apart := false }
def NetTakesSaid : Prop := netTakesRow.holds Try.pinned (OpenSpec.ofChange netTakesSpec)

/-- ITS FALSE NEIGHBOUR: 'it returns false'. Refute it at one input. -/
def netTakesWrong : ChangeSpec := { name := "netTakes", fn := fun _ => fun
  | [d1, d2, d3] => { results := [.lit (.bool false)], args := [d1, d2, d3] }
  | _ => none }
def NetTakesWrongFalsely : Prop := netTakesRow.holds Try.pinned (OpenSpec.ofChange netTakesWrong)

/-- 'rollcalllaw22.NetTwo': WHATEVER THE INPUT: true; the input reads as it did. -/
def netTwoSpec : ChangeSpec := { name := "netTwo", fn := fun _ => fun
  | [d1, d2, d3] => { results := [.lit (.bool true)], args := [d1, d2, d3] }
  | _ => none }
def netTwoRow : OpenClaim := { program := "ytgnjbiofjjcioaa", sum := "4f3e93c8aaa63aa54b2d59e6318ef0575af030c745ef34021229ba97a3adf8db", func := "rollcall/rollcalllaw22.NetTwo", spec := "netTwo", apart := false }
def NetTwoSaid : Prop := netTwoRow.holds Try.pinned (OpenSpec.ofChange netTwoSpec)

/-- ITS FALSE NEIGHBOUR: 'it returns false'. Refute it at one input. -/
def netTwoWrong : ChangeSpec := { name := "netTwo", fn := fun _ => fun
  | [d1, d2, d3] => { results := [.lit (.bool false)], args := [d1, d2, d3] }
  | _ => none }
def NetTwoWrongFalsely : Prop := netTwoRow.holds Try.pinned (OpenSpec.ofChange netTwoWrong)

/- THE SECOND FORM. 'bulk': how many values and letters a reading holds, each counted each time it is reached (what is shared counts as often as it is met; a slice's spare places count too). A statement '..UptoSaid' is the law's where the arguments, and the package variables that the reading takes, are together of bulk at most 1048576: NARROWER than '..Said'. Prove '..Said' where nothing that the law and all that it calls make is longer than what came in: it says more and counts as full. Else prove '..UptoSaid'. A law counts once. -/
mutual
def uptoBulk {H : Type} : DataW H → Nat
  | .lit (.string bytes) => bytes.length + 1
  | .lit _ => 1
  | .nil => 1
  | .ptr d => uptoBulk d + 1
  | .slice elems spare => uptoBulkAll elems + uptoBulkAll spare + 1
  | .agg parts => uptoBulkAll parts + 1
  | .iface _ d => uptoBulk d + 1
  | .map entries => uptoBulkEntries entries + 1
  | .held _ => 1
def uptoBulkAll {H : Type} : List (DataW H) → Nat
  | [] => 0
  | d :: r => uptoBulk d + uptoBulkAll r
def uptoBulkEntries {H : Type} : List (Lit × DataW H) → Nat
  | [] => 0
  | x :: r => uptoBulkEntry x + uptoBulkEntries r
def uptoBulkEntry {H : Type} : Lit × DataW H → Nat
  | (.string bytes, d) => bytes.length + uptoBulk d + 1
  | (_, d) => uptoBulk d + 1
 end
def uptoSmall : (H : Type) → List (DataW H) → Bool := fun _ ds => decide (uptoBulkAll ds ≤ 1048576)
def OpenSpec.upto (s : _root_.Go.ChangeSpec) : _root_.Go.OpenSpec := { _root_.Go.OpenSpec.ofChange s with cond := some uptoSmall }

/-- 'rollcalllaw22.NetDoes', WHERE WHAT IT READS IS OF BULK AT MOST 1048576: true; the input reads as it did. -/
def netDoesUptoRow : OpenClaim := { program := "ytgnjbiofjjcioaa", sum := "4f3e93c8aaa63aa54b2d59e6318ef0575af030c745ef34021229ba97a3adf8db", func := "rollcall/rollcalllaw22.NetDoes", spec := "netDoes", apart := false, narrowed := true }
def NetDoesUptoSaid : Prop := netDoesUptoRow.holds Try.pinned (OpenSpec.upto netDoesSpec)

/-- 'rollcalllaw22.NetMoves', WHERE WHAT IT READS IS OF BULK AT MOST 1048576: true; the input reads as it did. -/
def netMovesUptoRow : OpenClaim := { program := "ytgnjbiofjjcioaa", sum := "4f3e93c8aaa63aa54b2d59e6318ef0575af030c745ef34021229ba97a3adf8db", func := "rollcall/rollcalllaw22.NetMoves", spec := "netMoves", apart := false, narrowed := true }
def NetMovesUptoSaid : Prop := netMovesUptoRow.holds Try.pinned (OpenSpec.upto netMovesSpec)

/-- 'rollcalllaw22.NetBack', WHERE WHAT IT READS IS OF BULK AT MOST 1048576: true; the input reads as it did. -/
def netBackUptoRow : OpenClaim := { program := "ytgnjbiofjjcioaa", sum := "4f3e93c8aaa63aa54b2d59e6318ef0575af030c745ef34021229ba97a3adf8db", func := "rollcall/rollcalllaw22.NetBack", spec := "netBack", apart := false, narrowed := true }
def NetBackUptoSaid : Prop := netBackUptoRow.holds Try.pinned (OpenSpec.upto netBackSpec)

/-- 'rollcalllaw22.NetTakes', WHERE WHAT IT READS IS OF BULK AT MOST 1048576: true; the input reads as it did. -/
def netTakesUptoRow : OpenClaim := { program := "ytgnjbiofjjcioaa", sum := "4f3e93c8aaa63aa54b2d59e6318ef0575af030c745ef34021229ba97a3adf8db", func := "rollcall/rollcalllaw22.NetTakes", spec := "netTakes", apart := false, narrowed := true }
def NetTakesUptoSaid : Prop := netTakesUptoRow.holds Try.pinned (OpenSpec.upto netTakesSpec)

/-- 'rollcalllaw22.NetTwo', WHERE WHAT IT READS IS OF BULK AT MOST 1048576: true; the input reads as it did. -/
def netTwoUptoRow : OpenClaim := { program := "ytgnjbiofjjcioaa", sum := "4f3e93c8aaa63aa54b2d59e6318ef0575af030c745ef34021229ba97a3adf8db", func := "rollcall/rollcalllaw22.NetTwo", spec := "netTwo", apart := false, narrowed := true }
def NetTwoUptoSaid : Prop := netTwoUptoRow.holds Try.pinned (OpenSpec.upto netTwoSpec)

end Rows
end Go.Proofs.Ytgnjbiofjjcioaa
