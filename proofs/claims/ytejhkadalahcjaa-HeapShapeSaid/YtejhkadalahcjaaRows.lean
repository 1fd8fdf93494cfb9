/-
  No cell of these rows narrows 'for every input' (looked for: loops, veiled, ifaces, maps, wideKeys, modest, calm, conditions, laid).
  DERIVED. THE GIVEN ROWS OF THIS SEAT. 6 by the template 'for every input the law returns true; each argument reads behind the call as it read before'; 0 by the template 'total and deterministic' (their statements: YtejhkadalahcjaaTotals.lean).
  GIVEN WITH THE SEED: the statements are not yours to turn. If you find one false, say at which input.
  Laid BY PROGRAM, IN A SANDBOX (cutbox-rows.mjs): the forced cells as the released guide's own fill.sh prints them over the translation f9de510f2d09b3f2… (all of the seat's roots in one cut). By AI agents, Wed Nov 11 2026. No macro, syntax, notation, axiom, sorry.
-/
import Derived.Test.YtejhkadalahcjaaChecked
import GoSem.Claim
import GoSem.ClaimJoined
import GoSem.ClaimMapViews
import Derived.JoinedTies
import Derived.KernelRfl
namespace Go.Proofs.Ytejhkadalahcjaa
/- THE CELL 'sum', in the pinned program and in every row, IS THE sha256 OF THE DUMP (.gsa) THAT YtejhkadalahcjaaProg.lean LOADS. Nothing in Lean hashes anything: it is a label: what it is worth is what the hold of that sum in a sandbox is worth. -/
noncomputable def Try.pinned : Pinned := { name := "ytejhkadalahcjaa", sum := "f9de510f2d09b3f2073376111afbeaf74e2a0b0f6857450517fb3d579d875f7f", checked := Try.checked }
namespace Rows
def none {H : Type} : Left H := { results := [], args := [] }

/-- 'rollcalllaw10.HeapScripts': WHATEVER THE INPUT: true; the input reads as it did. -/
def heapScriptsSpec : ChangeSpec := { name := "heapScripts", fn := fun _ => fun
  | [d] => { results := [.lit (.bool true)], args := [d] }
  | _ => none }
def heapScriptsRow : OpenClaim := { program := "ytejhkadalahcjaa", sum := "f9de510f2d09b3f2073376111afbeaf74e2a0b0f6857450517fb3d579d875f7f", func := "rollcall/rollcalllaw10.HeapScripts", spec := "heapScripts", apart := false }
def HeapScriptsSaid : Prop := heapScriptsRow.holds Try.pinned (OpenSpec.ofChange heapScriptsSpec)

/-- ITS FALSE NEIGHBOUR: 'it returns false'. Refute it at one input. -/
def heapScriptsWrong : ChangeSpec := { name := "heapScripts", fn := fun _ => fun
  | [d] => { results := [.lit (.bool false)], args := [d] }
  | _ => none }
def HeapScriptsWrongFalsely : Prop := heapScriptsRow.holds Try.pinned (OpenSpec.ofChange heapScriptsWrong)

/-- 'rollcalllaw10.HeapShape': WHATEVER THE INPUT: true; the input reads as it did. -/
def heapShapeSpec : ChangeSpec := { name := "heapShape", fn := fun _ => fun
  | [d] => { results := [.lit (.bool true)], args := [d] }
  | _ => none }
def heapShapeRow : OpenClaim := { program := "ytejhkadalahcjaa", sum := "f9de510f2d09b3f2073376111afbeaf74e2a0b0f6857450517fb3d579d875f7f", func := "rollcall/rollcalllaw10.HeapShape", spec := "heapShape", apart := false }
def HeapShapeSaid : Prop := heapShapeRow.holds Try.pinned (OpenSpec.ofChange heapShapeSpec)

/-- ITS FALSE NEIGHBOUR: 'it returns false'. Refute it at one input. -/
def heapShapeWrong : ChangeSpec := { name := "heapShape", fn := fun _ => fun
  | [d] => { results := [.lit (.bool false)], args := [d] }
  | _ => none }
def HeapShapeWrongFalsely : Prop := heapShapeRow.holds Try.pinned (OpenSpec.ofChange heapShapeWrong)

/-- 'rollcalllaw10.HeapSorts': WHATEVER THE INPUT: true; the input reads as it did. -/
def heapSortsSpec : ChangeSpec := { name := "heapSorts", fn := fun _ => fun
  | [d] => { results := [.lit (.bool true)], args := [d] }
  | _ => none }
def heapSortsRow : OpenClaim := { program := "ytejhkadalahcjaa", sum := "f9de510f2d09b3f2073376111afbeaf74e2a0b0f6857450517fb3d579d875f7f", func := "rollcall/rollcalllaw10.HeapSorts", spec := "heapSorts", apart := false }
def HeapSortsSaid : Prop := heapSortsRow.holds Try.pinned (OpenSpec.ofChange heapSortsSpec)

/-- ITS FALSE NEIGHBOUR: 'it returns false'. Refute it at one input. -/
def heapSortsWrong : ChangeSpec := { name := "heapSorts", fn := fun _ => fun
  | [d] => { results := [.lit (.bool false)], args := [d] }
  | _ => none }
def HeapSortsWrongFalsely : Prop := heapSortsRow.holds Try.pinned (OpenSpec.ofChange heapSortsWrong)

/-- 'rollcalllaw10.HeapOrder': WHATEVER THE INPUT: true; the input reads as it did. -/
def heapOrderSpec : ChangeSpec := { name := "heapOrder", fn := fun _ => fun
  | [d1, d2] => { results := [.lit (.bool true)], args := [d1, d2] }
  | _ => none }
def heapOrderRow : OpenClaim := { program := "ytejhkadalahcjaa", sum := "f9de510f2d09b3f2073376111afbeaf74e2a0b0f6857450517fb3d579d875f7f", func := "rollcall/rollcalllaw10.HeapOrder", spec := "heapOrder", apart := false }
def HeapOrderSaid : Prop := heapOrderRow.holds Try.pinned (OpenSpec.ofChange heapOrderSpec)

/-- ITS FALSE NEIGHBOUR: 'it returns false'. Refute it at one input. -/
def heapOrderWrong : ChangeSpec := { name := "heapOrder", fn := fun _ => fun
  | [d1, d2] => { results := [.lit (.bool false)], args := [d1, d2] }
  | _ => none }
def HeapOrderWrongFalsely : Prop := heapOrderRow.holds Try.pinned (OpenSpec.ofChange heapOrderWrong)

/-- 'rollcalllaw10.HeapNil': WHATEVER THE INPUT: true; the input reads as it did. -/
def heapNilSpec : ChangeSpec := { name := "heapNil", fn := fun _ => fun
  | [d1, d2] => { results := [.lit (.bool true)], args := [d1, d2] }
  | _ => none }
def heapNilRow : OpenClaim := { program := "ytejhkadalahcjaa", sum := "f9de510f2d09b3f2073376111afbeaf74e2a0b0f6857450517fb3d579d875f7f", func := "rollcall/rollcalllaw10.HeapNil", spec := "heapNil", apart := false }
def HeapNilSaid : Prop := heapNilRow.holds Try.pinned (OpenSpec.ofChange heapNilSpec)

/-- ITS FALSE NEIGHBOUR: 'it returns false'. Refute it at one input. -/
def heapNilWrong : ChangeSpec := { name := "heapNil", fn := fun _ => fun
  | [d1, d2] => { results := [.lit (.bool false)], args := [d1, d2] }
  | _ => none }
def HeapNilWrongFalsely : Prop := heapNilRow.holds Try.pinned (OpenSpec.ofChange heapNilWrong)

/-- 'rollcalllaw10.HeapLast': WHATEVER THE INPUT: true; the input reads as it did. -/
def heapLastSpec : ChangeSpec := { name := "heapLast", fn := fun _ => fun
  | [d] => { results := [.lit (.bool true)], args := [d] }
  | _ => none }
def heapLastRow : OpenClaim := { program := "ytejhkadalahcjaa", sum := "f9de510f2d09b3f2073376111afbeaf74e2a0b0f6857450517fb3d579d875f7f", func := "rollcall/rollcalllaw10.HeapLast", spec := "heapLast", apart := false }
def HeapLastSaid : Prop := heapLastRow.holds Try.pinned (OpenSpec.ofChange heapLastSpec)

/-- ITS FALSE NEIGHBOUR: 'it returns false'. Refute it at one input. -/
def heapLastWrong : ChangeSpec := { name := "heapLast", fn := fun _ => fun
  | [d] => { results := [.lit (.bool false)], args := [d] }
  | _ => none }
def HeapLastWrongFalsely : Prop := heapLastRow.holds Try.pinned (OpenSpec.ofChange heapLastWrong)

/- THE SECOND FORM. 'bulk': how many values and letters a reading holds, each counted each time it is reached (what is shared counts as often as it is met; a slice's spare places count too). A statement '..UptoSaid' is the law's where the arguments, and the package variables that the reading takes, are together of bulk at most 1048576: NARROWER than '..Said'. Prove '..Said' where nothing that the law and all that it calls make is longer than what came in: it says more and counts as full. Else prove '..UptoSaid'. A law counts once. -/
mutual
def uptoBulk {H : Type} : DataW H → Nat
  | .lit (.string bytes) => bytes.length + 1
  | .lit _ => 1
  | .nil => 1
  | .ptr d => uptoBulk d + 1
  | .slice elems spare => uptoBulkAll elems + uptoBulkAll spare + 1
  | .agg parts => uptoBulkAll parts + 1
  | .iface _ d => uptoBulk d + 1
  | .map entries => uptoBulkEntries entries + 1
  | .held _ => 1
def uptoBulkAll {H : Type} : List (DataW H) → Nat
  | [] => 0
  | d :: r => uptoBulk d + uptoBulkAll r
def uptoBulkEntries {H : Type} : List (Lit × DataW H) → Nat
  | [] => 0
  | x :: r => uptoBulkEntry x + uptoBulkEntries r
def uptoBulkEntry {H : Type} : Lit × DataW H → Nat
  | (.string bytes, d) => bytes.length + uptoBulk d + 1
  | (_, d) => uptoBulk d + 1
 end
def uptoSmall : (H : Type) → List (DataW H) → Bool := fun _ ds => decide (uptoBulkAll ds ≤ 1048576)
def OpenSpec.upto (s : _root_.Go.ChangeSpec) : _root_.Go.OpenSpec := { _root_.Go.OpenSpec.ofChange s with cond := some uptoSmall }

/-- 'rollcalllaw10.HeapScripts', WHERE WHAT IT READS IS OF BULK AT MOST 1048576: true; the input reads as it did. -/
def heapScriptsUptoRow : OpenClaim := { program := "ytejhkadalahcjaa", sum := "f9de510f2d09b3f2073376111afbeaf74e2a0b0f6857450517fb3d579d875f7f", func := "rollcall/rollcalllaw10.HeapScripts", spec := "heapScripts", apart := false, narrowed := true }
def HeapScriptsUptoSaid : Prop := heapScriptsUptoRow.holds Try.pinned (OpenSpec.upto heapScriptsSpec)

/-- 'rollcalllaw10.HeapShape', WHERE WHAT IT READS IS OF BULK AT MOST 1048576: true; the input reads as it did. -/
def heapShapeUptoRow : OpenClaim := { program := "ytejhkadalahcjaa", sum := "f9de510f2d09b3f2073376111afbeaf74e2a0b0f6857450517fb3d579d875f7f", func := "rollcall/rollcalllaw10.HeapShape", spec := "heapShape", apart := false, narrowed := true }
def HeapShapeUptoSaid : Prop := heapShapeUptoRow.holds Try.pinned (OpenSpec.upto heapShapeSpec)

/-- 'rollcalllaw10.HeapSorts', WHERE WHAT IT READS IS OF BULK AT MOST 1048576: true; the input reads as it did. -/
def heapSortsUptoRow : OpenClaim := { program := "ytejhkadalahcjaa", sum := "f9de510f2d09b3f2073376111afbeaf74e2a0b0f6857450517fb3d579d875f7f", func := "rollcall/rollcalllaw10.HeapSorts", spec := "heapSorts", apart := false, narrowed := true }
def HeapSortsUptoSaid : Prop := heapSortsUptoRow.holds Try.pinned (OpenSpec.upto heapSortsSpec)

/-- 'rollcalllaw10.HeapOrder', WHERE WHAT IT READS IS OF BULK AT MOST 1048576: true; the input reads as it did. -/
def heapOrderUptoRow : OpenClaim := { program := "ytejhkadalahcjaa", sum := "f9de510f2d09b3f2073376111afbeaf74e2a0b0f6857450517fb3d579d875f7f", func := "rollcall/rollcalllaw10.HeapOrder", spec := "heapOrder", apart := false, narrowed := true }
def HeapOrderUptoSaid : Prop := heapOrderUptoRow.holds Try.pinned (OpenSpec.upto heapOrderSpec)

/-- 'rollcalllaw10.HeapNil', WHERE WHAT IT READS IS OF BULK AT MOST 1048576: true; the input reads as it did. -/
def heapNilUptoRow : OpenClaim := { program := "ytejhkadalahcjaa", sum := "f9de510f2d09b3f2073376111afbeaf74e2a0b0f6857450517fb3d579d875f7f", func := "rollcall/rollcalllaw10.HeapNil", spec := "heapNil", apart := false, narrowed := true }
def HeapNilUptoSaid : Prop := heapNilUptoRow.holds Try.pinned (OpenSpec.upto heapNilSpec)

/-- 'rollcalllaw10.HeapLast', WHERE WHAT IT READS IS OF BULK AT MOST 1048576: true; the input reads as it did. -/
def heapLastUptoRow : OpenClaim := { program := "ytejhkadalahcjaa", sum := "f9de510f2d09b3f2073376111afbeaf74e2a0b0f6857450517fb3d579d875f7f", func := "rollcall/rollcalllaw10.HeapLast", spec := "heapLast", apart := false, narrowed := true }
def HeapLastUptoSaid : Prop := heapLastUptoRow.holds Try.pinned (OpenSpec.upto heapLastSpec)

end Rows
end Go.Proofs.Ytejhkadalahcjaa
