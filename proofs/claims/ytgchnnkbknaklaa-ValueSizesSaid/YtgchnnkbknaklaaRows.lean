/-
  No cell of these rows narrows 'for every input' (looked for: loops, veiled, ifaces, maps, wideKeys, modest, calm, conditions, laid).
  DERIVED. THE GIVEN ROWS OF THIS SEAT. 5 by the template 'for every input the law returns true; each argument reads behind the call as it read before'; 0 by the template 'total and deterministic' (their statements: YtgchnnkbknaklaaTotals.lean).
  GIVEN WITH THE SEED: the statements are not yours to turn. If you find one false, say at which input.
  Laid BY PROGRAM, IN A SANDBOX (cutbox-rows.mjs): the forced cells as the released guide's own fill.sh prints them over the translation 78f6292a99516f6d… (all of the seat's roots in one cut). By AI agents, Wed Nov 11 2026. No macro, syntax, notation, axiom, sorry.
-/
import Derived.Test.YtgchnnkbknaklaaChecked
import GoSem.Claim
import GoSem.ClaimJoined
import GoSem.ClaimMapViews
import Derived.JoinedTies
import Derived.KernelRfl
namespace Go.Proofs.Ytgchnnkbknaklaa
/- THE CELL 'sum', in the pinned program and in every row, IS THE sha256 OF THE DUMP (.gsa) THAT YtgchnnkbknaklaaProg.lean LOADS. Nothing in Lean hashes anything: it is a label: what it is worth is what the hold of that sum in a sandbox is worth. -/
noncomputable def Try.pinned : Pinned := { name := "ytgchnnkbknaklaa", sum := "78f6292a99516f6d2200a2b230ce9d47b52849361a4798f3101ddf130a32361c", checked := Try.checked }
namespace Rows
def none {H : Type} : Left H := { results := [], args := [] }

/-- 'rollcalllaw04.ValueTells': WHATEVER THE INPUT: true; the input reads as it did. -/
def valueTellsSpec : ChangeSpec := { name := "valueTells", fn := fun _ => fun
  | [d1, d2, d3] => { results := [.lit (.bool true)], args := [d1, d2, d3] }
  | _ => none }
def valueTellsRow : OpenClaim := { program := "ytgchnnkbknaklaa", sum := "78f6292a99516f6d2200a2b230ce9d47b52849361a4798f3101ddf130a32361c", func := "rollcall/rollcalllaw04.ValueTells", spec := "valueTells", unfollowed := true, recurses := true, apart := false }
def ValueTellsSaid : Prop := valueTellsRow.holds Try.pinned (OpenSpec.ofChange valueTellsSpec)

/-- ITS FALSE NEIGHBOUR: 'it returns false'. Refute it at one input. -/
def valueTellsWrong : ChangeSpec := { name := "valueTells", fn := fun _ => fun
  | [d1, d2, d3] => { results := [.lit (.bool false)], args := [d1, d2, d3] }
  | _ => none }
def ValueTellsWrongFalsely : Prop := valueTellsRow.holds Try.pinned (OpenSpec.ofChange valueTellsWrong)

/-- 'rollcalllaw04.ValueTakes': WHATEVER THE INPUT: true; the input reads as it did. -/
def valueTakesSpec : ChangeSpec := { name := "valueTakes", fn := fun _ => fun
  | [d1, d2] => { results := [.lit (.bool true)], args := [d1, d2] }
  | _ => none }
def valueTakesRow : OpenClaim := { program := "ytgchnnkbknaklaa", sum := "78f6292a99516f6d2200a2b230ce9d47b52849361a4798f3101ddf130a32361c", func := "rollcall/rollcalllaw04.ValueTakes", spec := "valueTakes", unfollowed := true, recurses := true, apart := false }
def ValueTakesSaid : Prop := valueTakesRow.holds Try.pinned (OpenSpec.ofChange valueTakesSpec)

/-- ITS FALSE NEIGHBOUR: 'it returns false'. Refute it at one input. -/
def valueTakesWrong : ChangeSpec := { name := "valueTakes", fn := fun _ => fun
  | [d1, d2] => { results := [.lit (.bool false)], args := [d1, d2] }
  | _ => none }
def ValueTakesWrongFalsely : Prop := valueTakesRow.holds Try.pinned (OpenSpec.ofChange valueTakesWrong)

/-- 'rollcalllaw04.ValueBack': WHATEVER THE INPUT: true; the input reads as it did. -/
def valueBackSpec : ChangeSpec := { name := "valueBack", fn := fun _ => fun
  | [d1, d2, d3] => { results := [.lit (.bool true)], args := [d1, d2, d3] }
  | _ => none }
def valueBackRow : OpenClaim := { program := "ytgchnnkbknaklaa", sum := "78f6292a99516f6d2200a2b230ce9d47b52849361a4798f3101ddf130a32361c", func := "rollcall/rollcalllaw04.ValueBack", spec := "valueBack", unfollowed := true, recurses := true, apart := false }
def ValueBackSaid : Prop := valueBackRow.holds Try.pinned (OpenSpec.ofChange valueBackSpec)

/-- ITS FALSE NEIGHBOUR: 'it returns false'. Refute it at one input. -/
def valueBackWrong : ChangeSpec := { name := "valueBack", fn := fun _ => fun
  | [d1, d2, d3] => { results := [.lit (.bool false)], args := [d1, d2, d3] }
  | _ => none }
def ValueBackWrongFalsely : Prop := valueBackRow.holds Try.pinned (OpenSpec.ofChange valueBackWrong)

/-- 'rollcalllaw04.ValueApart': WHATEVER THE INPUT: true; the input reads as it did. -/
def valueApartSpec : ChangeSpec := { name := "valueApart", fn := fun _ => fun
  | [d1, d2, d3] => { results := [.lit (.bool true)], args := [d1, d2, d3] }
  | _ => none }
def valueApartRow : OpenClaim := { program := "ytgchnnkbknaklaa", sum := "78f6292a99516f6d2200a2b230ce9d47b52849361a4798f3101ddf130a32361c", func := "rollcall/rollcalllaw04.ValueApart", spec := "valueApart", unfollowed := true, recurses := true, apart := false }
def ValueApartSaid : Prop := valueApartRow.holds Try.pinned (OpenSpec.ofChange valueApartSpec)

/-- ITS FALSE NEIGHBOUR: 'it returns false'. Refute it at one input. -/
def valueApartWrong : ChangeSpec := { name := "valueApart", fn := fun _ => fun
  | [d1, d2, d3] => { results := [.lit (.bool false)], args := [d1, d2, d3] }
  | _ => none }
def ValueApartWrongFalsely : Prop := valueApartRow.holds Try.pinned (OpenSpec.ofChange valueApartWrong)

/-- 'rollcalllaw04.ValueSizes': WHATEVER THE INPUT: true; the input reads as it did. -/
def valueSizesSpec : ChangeSpec := { name := "valueSizes", fn := fun _ => fun
  | [d1, d2] => { results := [.lit (.bool true)], args := [d1, d2] }
  | _ => none }
def valueSizesRow : OpenClaim := { program := "ytgchnnkbknaklaa", sum := "78f6292a99516f6d2200a2b230ce9d47b52849361a4798f3101ddf130a32361c", func := "rollcall/rollcalllaw04.ValueSizes", spec := "valueSizes", unfollowed := true, recurses := true, apart := false }
def ValueSizesSaid : Prop := valueSizesRow.holds Try.pinned (OpenSpec.ofChange valueSizesSpec)

/-- ITS FALSE NEIGHBOUR: 'it returns false'. Refute it at one input. -/
def valueSizesWrong : ChangeSpec := { name := "valueSizes", fn := fun _ => fun
  | [d1, d2] => { results := [.lit (.bool false)], args := [d1, d2] }
  | _ => none }
def ValueSizesWrongFalsely : Prop := valueSizesRow.holds Try.pinned (OpenSpec.ofChange valueSizesWrong)

/- THE SECOND FORM. 'bulk': how many values and letters a reading holds, each counted each time it is reached (what is shared counts as often as it is met; a slice's spare places count too). A statement '..UptoSaid' is the law's where the arguments, and the package variables that the reading takes, are together of bulk at most 1048576: NARROWER than '..Said'. Prove '..Said' where nothing that the law and all that it calls make is longer than what came in: it says more and counts as full. Else prove '..UptoSaid'. A law counts once. -/
mutual
def uptoBulk {H : Type} : DataW H → Nat
  | .lit (.string bytes) => bytes.length + 1
  | .lit _ => 1
  | .nil => 1
  | .ptr d => uptoBulk d + 1
  | .slice elems spare => uptoBulkAll elems + uptoBulkAll spare + 1
  | .agg parts => uptoBulkAll parts + 1
  | .iface _ d => uptoBulk d + 1
  | .map entries => uptoBulkEntries entries + 1
  | .held _ => 1
def uptoBulkAll {H : Type} : List (DataW H) → Nat
  | [] => 0
  | d :: r => uptoBulk d + uptoBulkAll r
def uptoBulkEntries {H : Type} : List (Lit × DataW H) → Nat
  | [] => 0
  | x :: r => uptoBulkEntry x + uptoBulkEntries r
def uptoBulkEntry {H : Type} : Lit × DataW H → Nat
  | (.string bytes, d) => bytes.length + uptoBulk d + 1
  | (_, d) => uptoBulk d + 1
 end
def uptoSmall : (H : Type) → List (DataW H) → Bool := fun _ ds => decide (uptoBulkAll ds ≤ 1048576)
def OpenSpec.upto (s : _root_.Go.ChangeSpec) : _root_.Go.OpenSpec := { _root_.Go.OpenSpec.ofChange s with cond := some uptoSmall }

/-- 'rollcalllaw04.ValueTells', WHERE WHAT IT READS IS OF BULK AT MOST 1048576: true; the input reads as it did. -/
def valueTellsUptoRow : OpenClaim := { program := "ytgchnnkbknaklaa", sum := "78f6292a99516f6d2200a2b230ce9d47b52849361a4798f3101ddf130a32361c", func := "rollcall/rollcalllaw04.ValueTells", spec := "valueTells", unfollowed := true, recurses := true, apart := false, narrowed := true }
def ValueTellsUptoSaid : Prop := valueTellsUptoRow.holds Try.pinned (OpenSpec.upto valueTellsSpec)

/-- 'rollcalllaw04.ValueTakes', WHERE WHAT IT READS IS OF BULK AT MOST 1048576: true; the input reads as it did. -/
def valueTakesUptoRow : OpenClaim := { program := "ytgchnnkbknaklaa", sum := "78f6292a99516f6d2200a2b230ce9d47b52849361a4798f3101ddf130a32361c", func := "rollcall/rollcalllaw04.ValueTakes", spec := "valueTakes", unfollowed := true, recurses := true, apart := false, narrowed := true }
def ValueTakesUptoSaid : Prop := valueTakesUptoRow.holds Try.pinned (OpenSpec.upto valueTakesSpec)

/-- 'rollcalllaw04.ValueBack', WHERE WHAT IT READS IS OF BULK AT MOST 1048576: true; the input reads as it did. -/
def valueBackUptoRow : OpenClaim := { program := "ytgchnnkbknaklaa", sum := "78f6292a99516f6d2200a2b230ce9d47b52849361a4798f3101ddf130a32361c", func := "rollcall/rollcalllaw04.ValueBack", spec := "valueBack", unfollowed := true, recurses := true, apart := false, narrowed := true }
def ValueBackUptoSaid : Prop := valueBackUptoRow.holds Try.pinned (OpenSpec.upto valueBackSpec)

/-- 'rollcalllaw04.ValueApart', WHERE WHAT IT READS IS OF BULK AT MOST 1048576: true; the input reads as it did. -/
def valueApartUptoRow : OpenClaim := { program := "ytgchnnkbknaklaa", sum := "78f6292a99516f6d2200a2b230ce9d47b52849361a4798f3101ddf130a32361c", func := "rollcall/rollcalllaw04.ValueApart", spec := "valueApart", unfollowed := true, recurses := true, apart := false, narrowed := true }
def ValueApartUptoSaid : Prop := valueApartUptoRow.holds Try.pinned (OpenSpec.upto valueApartSpec)

/-- 'rollcalllaw04.ValueSizes', WHERE WHAT IT READS IS OF BULK AT MOST 1048576: true; the input reads as it did. -/
def valueSizesUptoRow : OpenClaim := { program := "ytgchnnkbknaklaa", sum := "78f6292a99516f6d2200a2b230ce9d47b52849361a4798f3101ddf130a32361c", func := "rollcall/rollcalllaw04.ValueSizes", spec := "valueSizes", unfollowed := true, recurses := true, apart := false, narrowed := true }
def ValueSizesUptoSaid : Prop := valueSizesUptoRow.holds Try.pinned (OpenSpec.upto valueSizesSpec)

end Rows
end Go.Proofs.Ytgchnnkbknaklaa
