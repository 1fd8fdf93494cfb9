/-
  No cell of these rows narrows 'for every input' (looked for: loops, veiled, ifaces, maps, wideKeys, modest, calm, conditions, laid).
  DERIVED. THE GIVEN ROWS OF THIS SEAT. 5 by the template 'for every input the law returns true; each argument reads behind the call as it read before'; 0 by the template 'total and deterministic' (their statements: YthcmelchgnekpaaTotals.lean).
  GIVEN WITH THE SEED: the statements are not yours to turn. If you find one false, say at which input.
  Laid BY PROGRAM, IN A SANDBOX (cutbox-rows.mjs): the forced cells as the released guide's own fill.sh prints them over the translation 81252870a79ef1ab… (all of the seat's roots in one cut). By AI agents, Wed Nov 11 2026. No macro, syntax, notation, axiom, sorry.
-/
import Derived.Test.YthcmelchgnekpaaChecked
import GoSem.Claim
import GoSem.ClaimJoined
import GoSem.ClaimMapViews
import Derived.JoinedTies
import Derived.KernelRfl
namespace Go.Proofs.Ythcmelchgnekpaa
/- THE CELL 'sum', in the pinned program and in every row, IS THE sha256 OF THE DUMP (.gsa) THAT YthcmelchgnekpaaProg.lean LOADS. Nothing in Lean hashes anything: it is a label: what it is worth is what the hold of that sum in a sandbox is worth. -/
noncomputable def Try.pinned : Pinned := { name := "ythcmelchgnekpaa", sum := "81252870a79ef1abac6a0910336c092e836b51294f114c2b631418ff63fffcaa", checked := Try.checked }
namespace Rows
def none {H : Type} : Left H := { results := [], args := [] }

/-- 'rollcalllaw17.QueueTells': WHATEVER THE INPUT: true; the input reads as it did. -/
def queueTellsSpec : ChangeSpec := { name := "queueTells", fn := fun _ => fun
  | [d1, d2, d3] => { results := [.lit (.bool true)], args := [d1, d2, d3] }
  | _ => none }
def queueTellsRow : OpenClaim := { program := "ythcmelchgnekpaa", sum := "81252870a79ef1abac6a0910336c092e836b51294f114c2b631418ff63fffcaa", func := "rollcall/rollcalllaw17.QueueTells", spec := "queueTells", inPlace := ["internal/bytealg.abigen_runtime_cmpstring", "slices.overlaps[rollcall/api.Seen]"], unfollowed := true, recurses := true, apart := false }
def QueueTellsSaid : Prop := queueTellsRow.holds Try.pinned (OpenSpec.ofChange queueTellsSpec)

/-- ITS FALSE NEIGHBOUR: 'it returns false'. Refute it at one input. -/
def queueTellsWrong : ChangeSpec := { name := "queueTells", fn := fun _ => fun
  | [d1, d2, d3] => { results := [.lit (.bool false)], args := [d1, d2, d3] }
  | _ => none }
def QueueTellsWrongFalsely : Prop := queueTellsRow.holds Try.pinned (OpenSpec.ofChange queueTellsWrong)

/-- 'rollcalllaw17.QueuePushes': WHATEVER THE INPUT: true; the input reads as it did. -/
def queuePushesSpec : ChangeSpec := { name := "queuePushes", fn := fun _ => fun
  | [d1, d2, d3] => { results := [.lit (.bool true)], args := [d1, d2, d3] }
  | _ => none }
def queuePushesRow : OpenClaim := { program := "ythcmelchgnekpaa", sum := "81252870a79ef1abac6a0910336c092e836b51294f114c2b631418ff63fffcaa", func := "rollcall/rollcalllaw17.QueuePushes", spec := "queuePushes", inPlace := ["internal/bytealg.abigen_runtime_cmpstring", "slices.overlaps[rollcall/api.Seen]"], unfollowed := true, recurses := true, apart := false }
def QueuePushesSaid : Prop := queuePushesRow.holds Try.pinned (OpenSpec.ofChange queuePushesSpec)

/-- ITS FALSE NEIGHBOUR: 'it returns false'. Refute it at one input. -/
def queuePushesWrong : ChangeSpec := { name := "queuePushes", fn := fun _ => fun
  | [d1, d2, d3] => { results := [.lit (.bool false)], args := [d1, d2, d3] }
  | _ => none }
def QueuePushesWrongFalsely : Prop := queuePushesRow.holds Try.pinned (OpenSpec.ofChange queuePushesWrong)

/-- 'rollcalllaw17.QueueMay': WHATEVER THE INPUT: true; the input reads as it did. -/
def queueMaySpec : ChangeSpec := { name := "queueMay", fn := fun _ => fun
  | [d1, d2, d3] => { results := [.lit (.bool true)], args := [d1, d2, d3] }
  | _ => none }
def queueMayRow : OpenClaim := { program := "ythcmelchgnekpaa", sum := "81252870a79ef1abac6a0910336c092e836b51294f114c2b631418ff63fffcaa", func := "rollcall/rollcalllaw17.QueueMay", spec := "queueMay", inPlace := ["internal/bytealg.abigen_runtime_cmpstring", "slices.overlaps[rollcall/api.Seen]"], unfollowed := true, recurses := true, apart := false }
def QueueMaySaid : Prop := queueMayRow.holds Try.pinned (OpenSpec.ofChange queueMaySpec)

/-- ITS FALSE NEIGHBOUR: 'it returns false'. Refute it at one input. -/
def queueMayWrong : ChangeSpec := { name := "queueMay", fn := fun _ => fun
  | [d1, d2, d3] => { results := [.lit (.bool false)], args := [d1, d2, d3] }
  | _ => none }
def QueueMayWrongFalsely : Prop := queueMayRow.holds Try.pinned (OpenSpec.ofChange queueMayWrong)

/-- 'rollcalllaw17.QueueLast': WHATEVER THE INPUT: true; the input reads as it did. -/
def queueLastSpec : ChangeSpec := { name := "queueLast", fn := fun _ => fun
  | [d1, d2, d3] => { results := [.lit (.bool true)], args := [d1, d2, d3] }
  | _ => none }
def queueLastRow : OpenClaim := { program := "ythcmelchgnekpaa", sum := "81252870a79ef1abac6a0910336c092e836b51294f114c2b631418ff63fffcaa", func := "rollcall/rollcalllaw17.QueueLast", spec := "queueLast", inPlace := ["internal/bytealg.abigen_runtime_cmpstring", "slices.overlaps[rollcall/api.Seen]"], unfollowed := true, recurses := true, apart := false }
def QueueLastSaid : Prop := queueLastRow.holds Try.pinned (OpenSpec.ofChange queueLastSpec)

/-- ITS FALSE NEIGHBOUR: 'it returns false'. Refute it at one input. -/
def queueLastWrong : ChangeSpec := { name := "queueLast", fn := fun _ => fun
  | [d1, d2, d3] => { results := [.lit (.bool false)], args := [d1, d2, d3] }
  | _ => none }
def QueueLastWrongFalsely : Prop := queueLastRow.holds Try.pinned (OpenSpec.ofChange queueLastWrong)

/-- 'rollcalllaw17.QueueTwo': WHATEVER THE INPUT: true; the input reads as it did. -/
def queueTwoSpec : ChangeSpec := { name := "queueTwo", fn := fun _ => fun
  | [d1, d2, d3] => { results := [.lit (.bool true)], args := [d1, d2, d3] }
  | _ => none }
def queueTwoRow : OpenClaim := { program := "ythcmelchgnekpaa", sum := "81252870a79ef1abac6a0910336c092e836b51294f114c2b631418ff63fffcaa", func := "rollcall/rollcalllaw17.QueueTwo", spec := "queueTwo", inPlace := ["internal/bytealg.abigen_runtime_cmpstring", "slices.overlaps[rollcall/api.Seen]"], unfollowed := true, recurses := true, apart := false }
def QueueTwoSaid : Prop := queueTwoRow.holds Try.pinned (OpenSpec.ofChange queueTwoSpec)

/-- ITS FALSE NEIGHBOUR: 'it returns false'. Refute it at one input. -/
def queueTwoWrong : ChangeSpec := { name := "queueTwo", fn := fun _ => fun
  | [d1, d2, d3] => { results := [.lit (.bool false)], args := [d1, d2, d3] }
  | _ => none }
def QueueTwoWrongFalsely : Prop := queueTwoRow.holds Try.pinned (OpenSpec.ofChange queueTwoWrong)

/- THE SECOND FORM. 'bulk': how many values and letters a reading holds, each counted each time it is reached (what is shared counts as often as it is met; a slice's spare places count too). A statement '..UptoSaid' is the law's where the arguments, and the package variables that the reading takes, are together of bulk at most 1048576: NARROWER than '..Said'. Prove '..Said' where nothing that the law and all that it calls make is longer than what came in: it says more and counts as full. Else prove '..UptoSaid'. A law counts once. -/
mutual
def uptoBulk {H : Type} : DataW H → Nat
  | .lit (.string bytes) => bytes.length + 1
  | .lit _ => 1
  | .nil => 1
  | .ptr d => uptoBulk d + 1
  | .slice elems spare => uptoBulkAll elems + uptoBulkAll spare + 1
  | .agg parts => uptoBulkAll parts + 1
  | .iface _ d => uptoBulk d + 1
  | .map entries => uptoBulkEntries entries + 1
  | .held _ => 1
def uptoBulkAll {H : Type} : List (DataW H) → Nat
  | [] => 0
  | d :: r => uptoBulk d + uptoBulkAll r
def uptoBulkEntries {H : Type} : List (Lit × DataW H) → Nat
  | [] => 0
  | x :: r => uptoBulkEntry x + uptoBulkEntries r
def uptoBulkEntry {H : Type} : Lit × DataW H → Nat
  | (.string bytes, d) => bytes.length + uptoBulk d + 1
  | (_, d) => uptoBulk d + 1
 end
def uptoSmall : (H : Type) → List (DataW H) → Bool := fun _ ds => decide (uptoBulkAll ds ≤ 1048576)
def OpenSpec.upto (s : _root_.Go.ChangeSpec) : _root_.Go.OpenSpec := { _root_.Go.OpenSpec.ofChange s with cond := some uptoSmall }

/-- 'rollcalllaw17.QueueTells', WHERE WHAT IT READS IS OF BULK AT MOST 1048576: true; the input reads as it did. -/
def queueTellsUptoRow : OpenClaim := { program := "ythcmelchgnekpaa", sum := "81252870a79ef1abac6a0910336c092e836b51294f114c2b631418ff63fffcaa", func := "rollcall/rollcalllaw17.QueueTells", spec := "queueTells", inPlace := ["internal/bytealg.abigen_runtime_cmpstring", "slices.overlaps[rollcall/api.Seen]"], unfollowed := true, recurses := true, apart := false, narrowed := true }
def QueueTellsUptoSaid : Prop := queueTellsUptoRow.holds Try.pinned (OpenSpec.upto queueTellsSpec)

/-- 'rollcalllaw17.QueuePushes', WHERE WHAT IT READS IS OF BULK AT MOST 1048576: true; the input reads as it did. -/
def queuePushesUptoRow : OpenClaim := { program := "ythcmelchgnekpaa", sum := "81252870a79ef1abac6a0910336c092e836b51294f114c2b631418ff63fffcaa", func := "rollcall/rollcalllaw17.QueuePushes", spec := "queuePushes", inPlace := ["internal/bytealg.abigen_runtime_cmpstring", "slices.overlaps[rollcall/api.Seen]"], unfollowed := true, recurses := true, apart := false, narrowed := true }
def QueuePushesUptoSaid : Prop := queuePushesUptoRow.holds Try.pinned (OpenSpec.upto queuePushesSpec)

/-- 'rollcalllaw17.QueueMay', WHERE WHAT IT READS IS OF BULK AT MOST 1048576: true; the input reads as it did. -/
def queueMayUptoRow : OpenClaim := { program := "ythcmelchgnekpaa", sum := "81252870a79ef1abac6a0910336c092e836b51294f114c2b631418ff63fffcaa", func := "rollcall/rollcalllaw17.QueueMay", spec := "queueMay", inPlace := ["internal/bytealg.abigen_runtime_cmpstring", "slices.overlaps[rollcall/api.Seen]"], unfollowed := true, recurses := true, apart := false, narrowed := true }
def QueueMayUptoSaid : Prop := queueMayUptoRow.holds Try.pinned (OpenSpec.upto queueMaySpec)

/-- 'rollcalllaw17.QueueLast', WHERE WHAT IT READS IS OF BULK AT MOST 1048576: true; the input reads as it did. -/
def queueLastUptoRow : OpenClaim := { program := "ythcmelchgnekpaa", sum := "81252870a79ef1abac6a0910336c092e836b51294f114c2b631418ff63fffcaa", func := "rollcall/rollcalllaw17.QueueLast", spec := "queueLast", inPlace := ["internal/bytealg.abigen_runtime_cmpstring", "slices.overlaps[rollcall/api.Seen]"], unfollowed := true, recurses := true, apart := false, narrowed := true }
def QueueLastUptoSaid : Prop := queueLastUptoRow.holds Try.pinned (OpenSpec.upto queueLastSpec)

/-- 'rollcalllaw17.QueueTwo', WHERE WHAT IT READS IS OF BULK AT MOST 1048576: true; the input reads as it did. -/
def queueTwoUptoRow : OpenClaim := { program := "ythcmelchgnekpaa", sum := "81252870a79ef1abac6a0910336c092e836b51294f114c2b631418ff63fffcaa", func := "rollcall/rollcalllaw17.QueueTwo", spec := "queueTwo", inPlace := ["internal/bytealg.abigen_runtime_cmpstring", "slices.overlaps[rollcall/api.Seen]"], unfollowed := true, recurses := true, apart := false, narrowed := true }
def QueueTwoUptoSaid : Prop := queueTwoUptoRow.holds Try.pinned (OpenSpec.upto queueTwoSpec)

end Rows
end Go.Proofs.Ythcmelchgnekpaa
