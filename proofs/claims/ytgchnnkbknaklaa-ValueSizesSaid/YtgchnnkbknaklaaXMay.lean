/- value.May, walked: each number within its bounds, and no odd byte in the status. -/
import Derived.Test.YtgchnnkbknaklaaProg
import Derived.Below
import Derived.Deep.Draws
import Derived.Deep.AppendLies
import Derived.Maps.AppendAt
import Derived.OwnWalk
import Derived.Laws.BytesArg
import Derived.Laws.MakeOwn
import Derived.Laws.OwnMore
import Derived.Deep.OwnRows
import Derived.Tactics
import Derived.Lib.ConvBytes
import Derived.Laws.Slices
import Derived.WalkKit
import Derived.KernelRfl
import Derived.RowKit3
import Derived.Deep.LoopGhost
import Derived.Deep.QuietTactic
import Derived.BigQuiet
import Derived.WideLaws
import Derived.Deep.DeepCutAuto
import Derived.Deep.CutBlock
import Derived.Deep.RegionHeld3
import Derived.Laws.Rows
import Derived.Lib.AppendStr
import Derived.ArgAppend
import Derived.Laws.IdiomCopy
import Derived.OrdersHeld
import Derived.Laws.BitsLemmas
import Derived.RowKit
import Derived.Test.YtgchnnkbknaklaaWWords
import Derived.Test.YtgchnnkbknaklaaWLast
import Derived.Test.YtgchnnkbknaklaaWTab
import Derived.Test.YtgchnnkbknaklaaWFour
import Derived.Test.YtgchnnkbknaklaaWQPut
import Derived.Test.YtgchnnkbknaklaaWApart
import Derived.Test.YtgchnnkbknaklaaWArr
import Derived.Test.YtgchnnkbknaklaaWZeros
import Derived.Test.YtgchnnkbknaklaaWFoot
import Derived.Test.YtgchnnkbknaklaaWKept
import Derived.Test.YtgchnnkbknaklaaWShare
import Derived.Test.YtgchnnkbknaklaaWN
import Derived.Test.YtgchnnkbknaklaaWFootNe
import Derived.Test.YtgchnnkbknaklaaWAt
import Derived.Test.YtgchnnkbknaklaaWEqStruct
import Derived.Test.YtgchnnkbknaklaaWRepsOne
import Derived.Test.YtgchnnkbknaklaaWInv
import Derived.Test.YtgchnnkbknaklaaWInvWords
import Derived.Test.YtgchnnkbknaklaaWGuard
import Derived.Test.YtgchnnkbknaklaaWNEv
import Derived.Test.YtgchnnkbknaklaaWMore
import Derived.Lib.Strings
import Derived.Test.YtgchnnkbknaklaaXOdd
namespace Go.Proofs.Ytgchnnkbknaklaa.XMay
open Go.RowKit Go.Proofs.YtgchnnkbknaklaaW.PrintWords Go.Proofs.YtgchnnkbknaklaaW.PrintLast Go.Proofs.YtgchnnkbknaklaaW.PrintMore Go.Proofs.Ytgchnnkbknaklaa.XOdd
set_option linter.unusedVariables false
set_option linter.unusedSimpArgs false
def numsB (a0 a1 a2 : Int) (a3 : ByteArray) : Prop := 1 ≤ a0 ∧ a0 ≤ 4 ∧ -128 ≤ a1 ∧ a1 ≤ 127 ∧ 0 ≤ a2 ∧ a2 ≤ 1099511627776 ∧ a3.size ≤ 32
instance (a0 a1 a2 : Int) (a3 : ByteArray) : Decidable (numsB a0 a1 a2 a3) := by unfold numsB; infer_instance
def mayB (a0 a1 a2 : Int) (a3 : ByteArray) : Bool := if numsB a0 a1 a2 a3 then !((bytesOf a3).any odd) else false
def value_May.f (a0 a1 a2 : Int) (a3 : ByteArray) : Option Bool := some (mayB a0 a1 a2 a3)
set_option maxHeartbeats 8000000 in
set_option maxRecDepth 100000 in
theorem yes (a0_0 : Int) (a0_1 : Int) (a0_2 : Int) (a0_3 : ByteArray) (w : World) (h1 : 1 ≤ a0_0) (h2 : a0_0 ≤ 4) (h3 : -128 ≤ a0_1) (h4 : a0_1 ≤ 127) (h5 : 0 ≤ a0_2) (h6 : a0_2 ≤ 1099511627776) (h7 : a0_3.size ≤ 32) :
    Calls Try.prog 15 #[.agg #[.int .i64 a0_0, .int .i64 a0_1, .int .i64 a0_2, .string a0_3]] w fun e w' => e = .returned (.bool !((bytesOf a0_3).any odd)) ∧ Below w.heap.size w w' := by
  have HB := below_alloc (Below.refl _ w) (Obj.cells #[Value.int IntKind.i64 a0_0, Value.int IntKind.i64 a0_1, Value.int IntKind.i64 a0_2, Value.string a0_3] 23)
  have kb := print_bytes (P := Try.prog) 9 41 5 Try.underlying9 Try.underlying41 Try.underlying5 a0_3 (w.alloc (Obj.cells #[Value.int IntKind.i64 a0_0, Value.int IntKind.i64 a0_1, Value.int IntKind.i64 a0_2, Value.string a0_3] 23))
  have KR := Aside0.mk (bytes_reads (w.alloc (Obj.cells #[Value.int IntKind.i64 a0_0, Value.int IntKind.i64 a0_1, Value.int IntKind.i64 a0_2, Value.string a0_3] 23)) 5 a0_3 (by omega))
  have HL := Aside0.mk (show a0_3.size = (bytesOf a0_3).length from (bytesOf_length a0_3).symm)
  have HB2 := Aside0.mk (bytes_below HB (by simp) 5 a0_3)
  clear HB
  generalize Lib.bytesWorld (w.alloc (Obj.cells #[Value.int IntKind.i64 a0_0, Value.int IntKind.i64 a0_1, Value.int IntKind.i64 a0_2, Value.string a0_3] 23)) 5 a0_3 = W at kb KR HB2
  generalize grownCap _ _ _ _ = cap at kb
  generalize hz : (w.alloc (Obj.cells #[Value.int IntKind.i64 a0_0, Value.int IntKind.i64 a0_1, Value.int IntKind.i64 a0_2, Value.string a0_3] 23)).heap.size = z at kb KR
  clear hz
  have HC := fun cp => contains_func (some ⟨z, 0, none⟩) a0_3.size cp (bytesOf a0_3) W HL.out (Kd.C_of_reads KR.out)
  generalize (bytesOf a0_3).any odd = q at HC ⊢
  clear HL KR
  have h7' : (a0_3.size : Int) ≤ 32 := by omega
  go_enter Try.func15, Try.ntmps15
  go_wp2_with (go_at_call 27; refine (HC _).mono ?_; rintro e w' ⟨rfl, rfl⟩)
  go_ret
  exact ⟨rfl, HB2.out⟩
set_option maxHeartbeats 8000000 in
set_option maxRecDepth 100000 in
theorem no0 (a0_0 : Int) (a0_1 : Int) (a0_2 : Int) (a0_3 : ByteArray) (w : World)  (h0 : a0_0 < 1) :
    Calls Try.prog 15 #[.agg #[.int .i64 a0_0, .int .i64 a0_1, .int .i64 a0_2, .string a0_3]] w fun e w' => e = .returned (.bool false) ∧ Below w.heap.size w w' := by
  have HB : ∀ o, Below w.heap.size w (w.alloc o) := fun o => below_alloc (Below.refl _ _) _
  go_enter Try.func15, Try.ntmps15
  go_wp2
  go_ret
  exact ⟨rfl, HB _⟩
set_option maxHeartbeats 8000000 in
set_option maxRecDepth 100000 in
theorem no1 (a0_0 : Int) (a0_1 : Int) (a0_2 : Int) (a0_3 : ByteArray) (w : World) (h0 : 1 ≤ a0_0) (h1 : 4 < a0_0) :
    Calls Try.prog 15 #[.agg #[.int .i64 a0_0, .int .i64 a0_1, .int .i64 a0_2, .string a0_3]] w fun e w' => e = .returned (.bool false) ∧ Below w.heap.size w w' := by
  have HB : ∀ o, Below w.heap.size w (w.alloc o) := fun o => below_alloc (Below.refl _ _) _
  go_enter Try.func15, Try.ntmps15
  go_wp2
  go_ret
  exact ⟨rfl, HB _⟩
set_option maxHeartbeats 8000000 in
set_option maxRecDepth 100000 in
theorem no2 (a0_0 : Int) (a0_1 : Int) (a0_2 : Int) (a0_3 : ByteArray) (w : World) (h0 : 1 ≤ a0_0) (h1 : a0_0 ≤ 4) (h2 : a0_1 < -128) :
    Calls Try.prog 15 #[.agg #[.int .i64 a0_0, .int .i64 a0_1, .int .i64 a0_2, .string a0_3]] w fun e w' => e = .returned (.bool false) ∧ Below w.heap.size w w' := by
  have HB : ∀ o, Below w.heap.size w (w.alloc o) := fun o => below_alloc (Below.refl _ _) _
  go_enter Try.func15, Try.ntmps15
  go_wp2
  go_ret
  exact ⟨rfl, HB _⟩
set_option maxHeartbeats 8000000 in
set_option maxRecDepth 100000 in
theorem no3 (a0_0 : Int) (a0_1 : Int) (a0_2 : Int) (a0_3 : ByteArray) (w : World) (h0 : 1 ≤ a0_0) (h1 : a0_0 ≤ 4) (h2 : -128 ≤ a0_1) (h3 : 127 < a0_1) :
    Calls Try.prog 15 #[.agg #[.int .i64 a0_0, .int .i64 a0_1, .int .i64 a0_2, .string a0_3]] w fun e w' => e = .returned (.bool false) ∧ Below w.heap.size w w' := by
  have HB : ∀ o, Below w.heap.size w (w.alloc o) := fun o => below_alloc (Below.refl _ _) _
  go_enter Try.func15, Try.ntmps15
  go_wp2
  go_ret
  exact ⟨rfl, HB _⟩
set_option maxHeartbeats 8000000 in
set_option maxRecDepth 100000 in
theorem no4 (a0_0 : Int) (a0_1 : Int) (a0_2 : Int) (a0_3 : ByteArray) (w : World) (h0 : 1 ≤ a0_0) (h1 : a0_0 ≤ 4) (h2 : -128 ≤ a0_1) (h3 : a0_1 ≤ 127) (h4 : a0_2 < 0) :
    Calls Try.prog 15 #[.agg #[.int .i64 a0_0, .int .i64 a0_1, .int .i64 a0_2, .string a0_3]] w fun e w' => e = .returned (.bool false) ∧ Below w.heap.size w w' := by
  have HB : ∀ o, Below w.heap.size w (w.alloc o) := fun o => below_alloc (Below.refl _ _) _
  go_enter Try.func15, Try.ntmps15
  go_wp2
  go_ret
  exact ⟨rfl, HB _⟩
set_option maxHeartbeats 8000000 in
set_option maxRecDepth 100000 in
theorem no5 (a0_0 : Int) (a0_1 : Int) (a0_2 : Int) (a0_3 : ByteArray) (w : World) (h0 : 1 ≤ a0_0) (h1 : a0_0 ≤ 4) (h2 : -128 ≤ a0_1) (h3 : a0_1 ≤ 127) (h4 : 0 ≤ a0_2) (h5 : 1099511627776 < a0_2) :
    Calls Try.prog 15 #[.agg #[.int .i64 a0_0, .int .i64 a0_1, .int .i64 a0_2, .string a0_3]] w fun e w' => e = .returned (.bool false) ∧ Below w.heap.size w w' := by
  have HB : ∀ o, Below w.heap.size w (w.alloc o) := fun o => below_alloc (Below.refl _ _) _
  go_enter Try.func15, Try.ntmps15
  go_wp2
  go_ret
  exact ⟨rfl, HB _⟩
set_option maxHeartbeats 8000000 in
set_option maxRecDepth 100000 in
theorem no6 (a0_0 : Int) (a0_1 : Int) (a0_2 : Int) (a0_3 : ByteArray) (w : World) (h0 : 1 ≤ a0_0) (h1 : a0_0 ≤ 4) (h2 : -128 ≤ a0_1) (h3 : a0_1 ≤ 127) (h4 : 0 ≤ a0_2) (h5 : a0_2 ≤ 1099511627776) (h6 : 32 < a0_3.size) :
    Calls Try.prog 15 #[.agg #[.int .i64 a0_0, .int .i64 a0_1, .int .i64 a0_2, .string a0_3]] w fun e w' => e = .returned (.bool false) ∧ Below w.heap.size w w' := by
  have HB : ∀ o, Below w.heap.size w (w.alloc o) := fun o => below_alloc (Below.refl _ _) _
  have h7' : ¬ (a0_3.size : Int) ≤ 32 := by omega
  go_enter Try.func15, Try.ntmps15
  go_wp2
  go_ret
  exact ⟨rfl, HB _⟩
theorem value_May.calls (a0_0 : Int) (a0_1 : Int) (a0_2 : Int) (a0_3 : ByteArray) (r : Bool) (w : World) (h : value_May.f a0_0 a0_1 a0_2 a0_3 = some r) :
    Calls Try.prog 15 #[.agg #[.int .i64 a0_0, .int .i64 a0_1, .int .i64 a0_2, .string a0_3]] w fun e w' => e = .returned (.bool r) ∧ Below w.heap.size w w' := by
  unfold value_May.f at h
  obtain rfl := Option.some.inj h
  clear h
  unfold mayB
  by_cases c : numsB a0_0 a0_1 a0_2 a0_3
  · rw [if_pos c]
    obtain ⟨h1, h2, h3, h4, h5, h6, h7⟩ := c
    exact yes a0_0 a0_1 a0_2 a0_3 w h1 h2 h3 h4 h5 h6 h7
  · rw [if_neg c]
    unfold numsB at c
    by_cases h0 : 1 ≤ a0_0
    rotate_left
    · exact no0 a0_0 a0_1 a0_2 a0_3 w  (by omega)
    by_cases h1 : a0_0 ≤ 4
    rotate_left
    · exact no1 a0_0 a0_1 a0_2 a0_3 w h0 (by omega)
    by_cases h2 : -128 ≤ a0_1
    rotate_left
    · exact no2 a0_0 a0_1 a0_2 a0_3 w h0 h1 (by omega)
    by_cases h3 : a0_1 ≤ 127
    rotate_left
    · exact no3 a0_0 a0_1 a0_2 a0_3 w h0 h1 h2 (by omega)
    by_cases h4 : 0 ≤ a0_2
    rotate_left
    · exact no4 a0_0 a0_1 a0_2 a0_3 w h0 h1 h2 h3 (by omega)
    by_cases h5 : a0_2 ≤ 1099511627776
    rotate_left
    · exact no5 a0_0 a0_1 a0_2 a0_3 w h0 h1 h2 h3 h4 (by omega)
    by_cases h6 : (a0_3.size : Int) ≤ 32
    rotate_left
    · exact no6 a0_0 a0_1 a0_2 a0_3 w h0 h1 h2 h3 h4 h5 (by omega)
    exact absurd ⟨h0, h1, h2, h3, h4, h5, by omega⟩ c
end Go.Proofs.Ytgchnnkbknaklaa.XMay
