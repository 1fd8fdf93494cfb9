/-
  No cell of these rows narrows 'for every input' (looked for: loops, veiled, ifaces, maps, wideKeys, modest, calm, conditions, laid).
  DERIVED. THE GIVEN ROWS OF THIS SEAT. 6 by the template 'for every input the law returns true; each argument reads behind the call as it read before'; 0 by the template 'total and deterministic' (their statements: YtmigglldahkngaaTotals.lean).
  GIVEN WITH THE SEED: the statements are not yours to turn. If you find one false, say at which input.
  Laid BY PROGRAM, IN A SANDBOX (cutbox-rows.mjs): the forced cells as the released guide's own fill.sh prints them over the translation 8a6a793d6771ede9… (all of the seat's roots in one cut). By AI agents, Wed Nov 11 2026. No macro, syntax, notation, axiom, sorry.
-/
import Derived.Test.YtmigglldahkngaaChecked
import GoSem.Claim
import GoSem.ClaimJoined
import GoSem.ClaimMapViews
import Derived.JoinedTies
import Derived.KernelRfl
namespace Go.Proofs.Ytmigglldahkngaa
/- THE CELL 'sum', in the pinned program and in every row, IS THE sha256 OF THE DUMP (.gsa) THAT YtmigglldahkngaaProg.lean LOADS. Nothing in Lean hashes anything: it is a label: what it is worth is what the hold of that sum in a sandbox is worth. -/
noncomputable def Try.pinned : Pinned := { name := "ytmigglldahkngaa", sum := "8a6a793d6771ede96ad91c3ff9ebc20cef84c94fb8d2ccd106f9694ae232e84e", checked := Try.checked }
namespace Rows
def none {H : Type} : Left H := { results := [], args := [] }

/-- 'rollcalllaw18.LinkTells': WHATEVER THE INPUT: true; the input reads as it did. -/
def linkTellsSpec : ChangeSpec := { name := "linkTells", fn := fun _ => fun
  | [d1, d2, d3] => { results := [.lit (.bool true)], args := [d1, d2, d3] }
  | _ => none }
def linkTellsRow : OpenClaim := { program := "ytmigglldahkngaa", sum := "8a6a793d6771ede96ad91c3ff9ebc20cef84c94fb8d2ccd106f9694ae232e84e", func := "rollcall/rollcalllaw18.LinkTells", spec := "linkTells", inPlace := ["internal/bytealg.abigen_runtime_cmpstring", "internal/abi.NoEscape"], unfollowed := true, recurses := true, apart := false }
def LinkTellsSaid : Prop := linkTellsRow.holds Try.pinned (OpenSpec.ofChange linkTellsSpec)

/-- ITS FALSE NEIGHBOUR: 'it returns false'. Refute it at one input. -/
def linkTellsWrong : ChangeSpec := { name := "linkTells", fn := fun _ => fun
  | [d1, d2, d3] => { results := [.lit (.bool false)], args := [d1, d2, d3] }
  | _ => none }
def LinkTellsWrongFalsely : Prop := linkTellsRow.holds Try.pinned (OpenSpec.ofChange linkTellsWrong)

/-- 'rollcalllaw18.LinkEmits': WHATEVER THE INPUT: true; the input reads as it did. -/
def linkEmitsSpec : ChangeSpec := { name := "linkEmits", fn := fun _ => fun
  | [d1, d2, d3] => { results := [.lit (.bool true)], args := [d1, d2, d3] }
  | _ => none }
def linkEmitsRow : OpenClaim := { program := "ytmigglldahkngaa", sum := "8a6a793d6771ede96ad91c3ff9ebc20cef84c94fb8d2ccd106f9694ae232e84e", func := "rollcall/rollcalllaw18.LinkEmits", spec := "linkEmits", inPlace := ["internal/bytealg.abigen_runtime_cmpstring", "internal/abi.NoEscape"], unfollowed := true, recurses := true, apart := false }
def LinkEmitsSaid : Prop := linkEmitsRow.holds Try.pinned (OpenSpec.ofChange linkEmitsSpec)

/-- ITS FALSE NEIGHBOUR: 'it returns false'. Refute it at one input. -/
def linkEmitsWrong : ChangeSpec := { name := "linkEmits", fn := fun _ => fun
  | [d1, d2, d3] => { results := [.lit (.bool false)], args := [d1, d2, d3] }
  | _ => none }
def LinkEmitsWrongFalsely : Prop := linkEmitsRow.holds Try.pinned (OpenSpec.ofChange linkEmitsWrong)

/-- 'rollcalllaw18.LinkFrames': WHATEVER THE INPUT: true; the input reads as it did. -/
def linkFramesSpec : ChangeSpec := { name := "linkFrames", fn := fun _ => fun
  | [d1, d2, d3] => { results := [.lit (.bool true)], args := [d1, d2, d3] }
  | _ => none }
def linkFramesRow : OpenClaim := { program := "ytmigglldahkngaa", sum := "8a6a793d6771ede96ad91c3ff9ebc20cef84c94fb8d2ccd106f9694ae232e84e", func := "rollcall/rollcalllaw18.LinkFrames", spec := "linkFrames", inPlace := ["internal/bytealg.abigen_runtime_cmpstring", "internal/abi.NoEscape"], unfollowed := true, recurses := true, apart := false }
def LinkFramesSaid : Prop := linkFramesRow.holds Try.pinned (OpenSpec.ofChange linkFramesSpec)

/-- ITS FALSE NEIGHBOUR: 'it returns false'. Refute it at one input. -/
def linkFramesWrong : ChangeSpec := { name := "linkFrames", fn := fun _ => fun
  | [d1, d2, d3] => { results := [.lit (.bool false)], args := [d1, d2, d3] }
  | _ => none }
def LinkFramesWrongFalsely : Prop := linkFramesRow.holds Try.pinned (OpenSpec.ofChange linkFramesWrong)

/-- 'rollcalllaw18.LinkTold': WHATEVER THE INPUT: true; the input reads as it did. -/
def linkToldSpec : ChangeSpec := { name := "linkTold", fn := fun _ => fun
  | [d1, d2, d3] => { results := [.lit (.bool true)], args := [d1, d2, d3] }
  | _ => none }
def linkToldRow : OpenClaim := { program := "ytmigglldahkngaa", sum := "8a6a793d6771ede96ad91c3ff9ebc20cef84c94fb8d2ccd106f9694ae232e84e", func := "rollcall/rollcalllaw18.LinkTold", spec := "linkTold", inPlace := ["internal/bytealg.abigen_runtime_cmpstring", "internal/abi.NoEscape"], unfollowed := true, recurses := true, apart := false }
def LinkToldSaid : Prop := linkToldRow.holds Try.pinned (OpenSpec.ofChange linkToldSpec)

/-- ITS FALSE NEIGHBOUR: 'it returns false'. Refute it at one input. -/
def linkToldWrong : ChangeSpec := { name := "linkTold", fn := fun _ => fun
  | [d1, d2, d3] => { results := [.lit (.bool false)], args := [d1, d2, d3] }
  | _ => none }
def LinkToldWrongFalsely : Prop := linkToldRow.holds Try.pinned (OpenSpec.ofChange linkToldWrong)

/-- 'rollcalllaw18.LinkPushes': WHATEVER THE INPUT: true; the input reads as it did. -/
def linkPushesSpec : ChangeSpec := { name := "linkPushes", fn := fun _ => fun
  | [d1, d2] => { results := [.lit (.bool true)], args := [d1, d2] }
  | _ => none }
def linkPushesRow : OpenClaim := { program := "ytmigglldahkngaa", sum := "8a6a793d6771ede96ad91c3ff9ebc20cef84c94fb8d2ccd106f9694ae232e84e", func := "rollcall/rollcalllaw18.LinkPushes", spec := "linkPushes", inPlace := ["internal/bytealg.abigen_runtime_cmpstring", "internal/abi.NoEscape"], unfollowed := true, recurses := true, apart := false }
def LinkPushesSaid : Prop := linkPushesRow.holds Try.pinned (OpenSpec.ofChange linkPushesSpec)

/-- ITS FALSE NEIGHBOUR: 'it returns false'. Refute it at one input. -/
def linkPushesWrong : ChangeSpec := { name := "linkPushes", fn := fun _ => fun
  | [d1, d2] => { results := [.lit (.bool false)], args := [d1, d2] }
  | _ => none }
def LinkPushesWrongFalsely : Prop := linkPushesRow.holds Try.pinned (OpenSpec.ofChange linkPushesWrong)

/-- 'rollcalllaw18.LinkTwice': WHATEVER THE INPUT: true; the input reads as it did. -/
def linkTwiceSpec : ChangeSpec := { name := "linkTwice", fn := fun _ => fun
  | [d1, d2, d3] => { results := [.lit (.bool true)], args := [d1, d2, d3] }
  | _ => none }
def linkTwiceRow : OpenClaim := { program := "ytmigglldahkngaa", sum := "8a6a793d6771ede96ad91c3ff9ebc20cef84c94fb8d2ccd106f9694ae232e84e", func := "rollcall/rollcalllaw18.LinkTwice", spec := "linkTwice", inPlace := ["internal/bytealg.abigen_runtime_cmpstring", "internal/abi.NoEscape"], unfollowed := true, recurses := true, apart := false }
def LinkTwiceSaid : Prop := linkTwiceRow.holds Try.pinned (OpenSpec.ofChange linkTwiceSpec)

/-- ITS FALSE NEIGHBOUR: 'it returns false'. Refute it at one input. -/
def linkTwiceWrong : ChangeSpec := { name := "linkTwice", fn := fun _ => fun
  | [d1, d2, d3] => { results := [.lit (.bool false)], args := [d1, d2, d3] }
  | _ => none }
def LinkTwiceWrongFalsely : Prop := linkTwiceRow.holds Try.pinned (OpenSpec.ofChange linkTwiceWrong)

/- THE SECOND FORM. 'bulk': how many values and letters a reading holds, each counted each time it is reached (what is shared counts as often as it is met; a slice's spare places count too). A statement '..UptoSaid' is the law's where the arguments, and the package variables that the reading takes, are together of bulk at most 1048576: NARROWER than '..Said'. Prove '..Said' where nothing that the law and all that it calls make is longer than what came in: it says more and counts as full. Else prove '..UptoSaid'. A law counts once. -/
mutual
def uptoBulk {H : Type} : DataW H → Nat
  | .lit (.string bytes) => bytes.length + 1
  | .lit _ => 1
  | .nil => 1
  | .ptr d => uptoBulk d + 1
  | .slice elems spare => uptoBulkAll elems + uptoBulkAll spare + 1
  | .agg parts => uptoBulkAll parts + 1
  | .iface _ d => uptoBulk d + 1
  | .map entries => uptoBulkEntries entries + 1
  | .held _ => 1
def uptoBulkAll {H : Type} : List (DataW H) → Nat
  | [] => 0
  | d :: r => uptoBulk d + uptoBulkAll r
def uptoBulkEntries {H : Type} : List (Lit × DataW H) → Nat
  | [] => 0
  | x :: r => uptoBulkEntry x + uptoBulkEntries r
def uptoBulkEntry {H : Type} : Lit × DataW H → Nat
  | (.string bytes, d) => bytes.length + uptoBulk d + 1
  | (_, d) => uptoBulk d + 1
 end
def uptoSmall : (H : Type) → List (DataW H) → Bool := fun _ ds => decide (uptoBulkAll ds ≤ 1048576)
def OpenSpec.upto (s : _root_.Go.ChangeSpec) : _root_.Go.OpenSpec := { _root_.Go.OpenSpec.ofChange s with cond := some uptoSmall }

/-- 'rollcalllaw18.LinkTells', WHERE WHAT IT READS IS OF BULK AT MOST 1048576: true; the input reads as it did. -/
def linkTellsUptoRow : OpenClaim := { program := "ytmigglldahkngaa", sum := "8a6a793d6771ede96ad91c3ff9ebc20cef84c94fb8d2ccd106f9694ae232e84e", func := "rollcall/rollcalllaw18.LinkTells", spec := "linkTells", inPlace := ["internal/bytealg.abigen_runtime_cmpstring", "internal/abi.NoEscape"], unfollowed := true, recurses := true, apart := false, narrowed := true }
def LinkTellsUptoSaid : Prop := linkTellsUptoRow.holds Try.pinned (OpenSpec.upto linkTellsSpec)

/-- 'rollcalllaw18.LinkEmits', WHERE WHAT IT READS IS OF BULK AT MOST 1048576: true; the input reads as it did. -/
def linkEmitsUptoRow : OpenClaim := { program := "ytmigglldahkngaa", sum := "8a6a793d6771ede96ad91c3ff9ebc20cef84c94fb8d2ccd106f9694ae232e84e", func := "rollcall/rollcalllaw18.LinkEmits", spec := "linkEmits", inPlace := ["internal/bytealg.abigen_runtime_cmpstring", "internal/abi.NoEscape"], unfollowed := true, recurses := true, apart := false, narrowed := true }
def LinkEmitsUptoSaid : Prop := linkEmitsUptoRow.holds Try.pinned (OpenSpec.upto linkEmitsSpec)

/-- 'rollcalllaw18.LinkFrames', WHERE WHAT IT READS IS OF BULK AT MOST 1048576: true; the input reads as it did. -/
def linkFramesUptoRow : OpenClaim := { program := "ytmigglldahkngaa", sum := "8a6a793d6771ede96ad91c3ff9ebc20cef84c94fb8d2ccd106f9694ae232e84e", func := "rollcall/rollcalllaw18.LinkFrames", spec := "linkFrames", inPlace := ["internal/bytealg.abigen_runtime_cmpstring", "internal/abi.NoEscape"], unfollowed := true, recurses := true, apart := false, narrowed := true }
def LinkFramesUptoSaid : Prop := linkFramesUptoRow.holds Try.pinned (OpenSpec.upto linkFramesSpec)

/-- 'rollcalllaw18.LinkTold', WHERE WHAT IT READS IS OF BULK AT MOST 1048576: true; the input reads as it did. -/
def linkToldUptoRow : OpenClaim := { program := "ytmigglldahkngaa", sum := "8a6a793d6771ede96ad91c3ff9ebc20cef84c94fb8d2ccd106f9694ae232e84e", func := "rollcall/rollcalllaw18.LinkTold", spec := "linkTold", inPlace := ["internal/bytealg.abigen_runtime_cmpstring", "internal/abi.NoEscape"], unfollowed := true, recurses := true, apart := false, narrowed := true }
def LinkToldUptoSaid : Prop := linkToldUptoRow.holds Try.pinned (OpenSpec.upto linkToldSpec)

/-- 'rollcalllaw18.LinkPushes', WHERE WHAT IT READS IS OF BULK AT MOST 1048576: true; the input reads as it did. -/
def linkPushesUptoRow : OpenClaim := { program := "ytmigglldahkngaa", sum := "8a6a793d6771ede96ad91c3ff9ebc20cef84c94fb8d2ccd106f9694ae232e84e", func := "rollcall/rollcalllaw18.LinkPushes", spec := "linkPushes", inPlace := ["internal/bytealg.abigen_runtime_cmpstring", "internal/abi.NoEscape"], unfollowed := true, recurses := true, apart := false, narrowed := true }
def LinkPushesUptoSaid : Prop := linkPushesUptoRow.holds Try.pinned (OpenSpec.upto linkPushesSpec)

/-- 'rollcalllaw18.LinkTwice', WHERE WHAT IT READS IS OF BULK AT MOST 1048576: true; the input reads as it did. -/
def linkTwiceUptoRow : OpenClaim := { program := "ytmigglldahkngaa", sum := "8a6a793d6771ede96ad91c3ff9ebc20cef84c94fb8d2ccd106f9694ae232e84e", func := "rollcall/rollcalllaw18.LinkTwice", spec := "linkTwice", inPlace := ["internal/bytealg.abigen_runtime_cmpstring", "internal/abi.NoEscape"], unfollowed := true, recurses := true, apart := false, narrowed := true }
def LinkTwiceUptoSaid : Prop := linkTwiceUptoRow.holds Try.pinned (OpenSpec.upto linkTwiceSpec)

end Rows
end Go.Proofs.Ytmigglldahkngaa
