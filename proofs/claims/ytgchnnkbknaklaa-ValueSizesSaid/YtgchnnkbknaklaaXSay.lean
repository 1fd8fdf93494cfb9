/- value.Say and value.Hear, walked: the names of the five shows. -/
import Derived.Test.YtgchnnkbknaklaaProg
import Derived.Below
import Derived.Deep.Draws
import Derived.Deep.AppendLies
import Derived.Maps.AppendAt
import Derived.OwnWalk
import Derived.Laws.BytesArg
import Derived.Laws.MakeOwn
import Derived.Laws.OwnMore
import Derived.Deep.OwnRows
import Derived.Tactics
import Derived.Lib.ConvBytes
import Derived.Laws.Slices
import Derived.WalkKit
import Derived.KernelRfl
import Derived.RowKit3
import Derived.Deep.LoopGhost
import Derived.Deep.QuietTactic
import Derived.BigQuiet
import Derived.WideLaws
import Derived.Deep.DeepCutAuto
import Derived.Deep.CutBlock
import Derived.Deep.RegionHeld3
import Derived.Laws.Rows
import Derived.Lib.AppendStr
import Derived.ArgAppend
import Derived.Laws.IdiomCopy
import Derived.OrdersHeld
import Derived.Laws.BitsLemmas
import Derived.RowKit
import Derived.Test.YtgchnnkbknaklaaWWords
import Derived.Test.YtgchnnkbknaklaaWLast
import Derived.Test.YtgchnnkbknaklaaWTab
import Derived.Test.YtgchnnkbknaklaaWFour
import Derived.Test.YtgchnnkbknaklaaWQPut
import Derived.Test.YtgchnnkbknaklaaWApart
import Derived.Test.YtgchnnkbknaklaaWArr
import Derived.Test.YtgchnnkbknaklaaWZeros
import Derived.Test.YtgchnnkbknaklaaWFoot
import Derived.Test.YtgchnnkbknaklaaWKept
import Derived.Test.YtgchnnkbknaklaaWShare
import Derived.Test.YtgchnnkbknaklaaWN
import Derived.Test.YtgchnnkbknaklaaWFootNe
import Derived.Test.YtgchnnkbknaklaaWAt
import Derived.Test.YtgchnnkbknaklaaWEqStruct
import Derived.Test.YtgchnnkbknaklaaWRepsOne
import Derived.Test.YtgchnnkbknaklaaWInv
import Derived.Test.YtgchnnkbknaklaaWInvWords
import Derived.Test.YtgchnnkbknaklaaWGuard
import Derived.Test.YtgchnnkbknaklaaWNEv
import Derived.Test.YtgchnnkbknaklaaWMore
import Derived.Lib.Strings
namespace Go.Proofs.Ytgchnnkbknaklaa.XSay
open Go.RowKit Go.Proofs.YtgchnnkbknaklaaW.PrintWords Go.Proofs.YtgchnnkbknaklaaW.PrintLast Go.Proofs.YtgchnnkbknaklaaW.PrintMore
set_option linter.unusedVariables false
set_option linter.unusedSimpArgs false
def nm (j : Int) : ByteArray := if j = 0 then ⟨#[111, 102, 102]⟩ else if j = 1 then ⟨#[103, 111, 110, 101]⟩ else if j = 2 then ⟨#[97, 119, 97, 121]⟩ else if j = 3 then ⟨#[98, 117, 115, 121]⟩ else ⟨#[111, 110, 108, 105, 110, 101]⟩
def all5 : Value := .agg #[.string ⟨#[111, 102, 102]⟩, .string ⟨#[103, 111, 110, 101]⟩, .string ⟨#[97, 119, 97, 121]⟩, .string ⟨#[98, 117, 115, 121]⟩, .string ⟨#[111, 110, 108, 105, 110, 101]⟩]
theorem names (w : World) : Calls Try.prog 24 #[] w fun e w' => e = .returned all5 ∧ Below w.heap.size w w' := by
  have HB : ∀ o, Below w.heap.size w (w.alloc o) := fun o => below_alloc (Below.refl _ _) _
  unfold all5
  go_enter Try.func24, Try.ntmps24
  go_wp2
  exact bodyPost_ret (v := .agg #[.string ⟨#[111, 102, 102]⟩, .string ⟨#[103, 111, 110, 101]⟩, .string ⟨#[97, 119, 97, 121]⟩, .string ⟨#[98, 117, 115, 121]⟩, .string ⟨#[111, 110, 108, 105, 110, 101]⟩]) (by simp [results, Try.results24, go_sem]) rfl ⟨rfl, HB _⟩
theorem at0 (w : World) : (Instr.index 44 all5 (.int .i64 0)).run Try.prog w = .ok (.string ⟨#[111, 102, 102]⟩) w := by kernel_rfl
theorem at1 (w : World) : (Instr.index 44 all5 (.int .i64 1)).run Try.prog w = .ok (.string ⟨#[103, 111, 110, 101]⟩) w := by kernel_rfl
theorem at2 (w : World) : (Instr.index 44 all5 (.int .i64 2)).run Try.prog w = .ok (.string ⟨#[97, 119, 97, 121]⟩) w := by kernel_rfl
theorem at3 (w : World) : (Instr.index 44 all5 (.int .i64 3)).run Try.prog w = .ok (.string ⟨#[98, 117, 115, 121]⟩) w := by kernel_rfl
theorem at4 (w : World) : (Instr.index 44 all5 (.int .i64 4)).run Try.prog w = .ok (.string ⟨#[111, 110, 108, 105, 110, 101]⟩) w := by kernel_rfl
def value_Say.f (a0 : Int) : Option (ByteArray × Bool) := some (if a0 < 0 ∨ 4 < a0 then (⟨#[]⟩, false) else (nm a0, true))
set_option maxHeartbeats 4000000 in
theorem value_Say.calls (a0 : Int) (r1 : ByteArray) (r2 : Bool) (w : World) (h : value_Say.f a0 = some (r1, r2)) :
    Calls Try.prog 11 #[.int .i64 a0] w fun e w' => e = .returned (.tuple #[.string r1, .bool r2]) ∧ Below w.heap.size w w' := by
  unfold value_Say.f at h
  replace h := Option.some.inj h
  have hn := names w
  by_cases c : a0 < 0 ∨ 4 < a0
  · rw [if_pos c] at h
    obtain ⟨rfl, rfl⟩ : (⟨#[]⟩ : ByteArray) = r1 ∧ false = r2 := by simpa using h
    clear h
    rcases c with c | c
    · go_enter Try.func11, Try.ntmps11
      go_wp2
      go_ret2
      exact ⟨rfl, Below.refl _ _⟩
    · have c0 : 0 ≤ a0 := by omega
      go_enter Try.func11, Try.ntmps11
      go_wp2
      go_ret2
      exact ⟨rfl, Below.refl _ _⟩
  · rw [if_neg c] at h
    obtain ⟨rfl, rfl⟩ : nm a0 = r1 ∧ true = r2 := by simpa using h
    clear h
    rcases (show a0 = 0 ∨ a0 = 1 ∨ a0 = 2 ∨ a0 = 3 ∨ a0 = 4 by omega) with rfl | rfl | rfl | rfl | rfl
    · have ha := at0
      generalize all5 = A5 at hn ha
      clear c
      go_enter Try.func11, Try.ntmps11
      go_wp2_with (go_at_call 24; refine hn.mono ?_; rintro e w1 ⟨rfl, hb⟩; have HB := Aside0.mk hb; clear hb)
      go_ret2
      exact ⟨rfl, HB.out⟩
    · have ha := at1
      generalize all5 = A5 at hn ha
      clear c
      go_enter Try.func11, Try.ntmps11
      go_wp2_with (go_at_call 24; refine hn.mono ?_; rintro e w1 ⟨rfl, hb⟩; have HB := Aside0.mk hb; clear hb)
      go_ret2
      exact ⟨rfl, HB.out⟩
    · have ha := at2
      generalize all5 = A5 at hn ha
      clear c
      go_enter Try.func11, Try.ntmps11
      go_wp2_with (go_at_call 24; refine hn.mono ?_; rintro e w1 ⟨rfl, hb⟩; have HB := Aside0.mk hb; clear hb)
      go_ret2
      exact ⟨rfl, HB.out⟩
    · have ha := at3
      generalize all5 = A5 at hn ha
      clear c
      go_enter Try.func11, Try.ntmps11
      go_wp2_with (go_at_call 24; refine hn.mono ?_; rintro e w1 ⟨rfl, hb⟩; have HB := Aside0.mk hb; clear hb)
      go_ret2
      exact ⟨rfl, HB.out⟩
    · have ha := at4
      generalize all5 = A5 at hn ha
      clear c
      go_enter Try.func11, Try.ntmps11
      go_wp2_with (go_at_call 24; refine hn.mono ?_; rintro e w1 ⟨rfl, hb⟩; have HB := Aside0.mk hb; clear hb)
      go_ret2
      exact ⟨rfl, HB.out⟩
def hearB (s : ByteArray) : Int × Bool := if (([111, 102, 102] : List UInt8) == s.toList) = true then (0, true) else if (([103, 111, 110, 101] : List UInt8) == s.toList) = true then (1, true) else if (([97, 119, 97, 121] : List UInt8) == s.toList) = true then (2, true) else if (([98, 117, 115, 121] : List UInt8) == s.toList) = true then (3, true) else if (([111, 110, 108, 105, 110, 101] : List UInt8) == s.toList) = true then (4, true) else (0, false)
def value_Hear.f (a0 : ByteArray) : Option (Int × Bool) := some (hearB a0)
set_option maxHeartbeats 8000000 in
set_option maxRecDepth 100000 in
theorem value_Hear.calls (a0 : ByteArray) (r1 : Int) (r2 : Bool) (w : World) (h : value_Hear.f a0 = some (r1, r2)) :
    Calls Try.prog 13 #[.string a0] w fun e w' => e = .returned (.tuple #[.int .i64 r1, .bool r2]) ∧ Below w.heap.size w w' := by
  unfold value_Hear.f hearB at h
  replace h := Option.some.inj h
  have hn := names w
  have ha0 := at0
  have ha1 := at1
  have ha2 := at2
  have ha3 := at3
  have ha4 := at4
  generalize all5 = A5 at hn ha0 ha1 ha2 ha3 ha4
  by_cases c0 : (([111, 102, 102] : List UInt8) == a0.toList) = true
  · rw [if_pos c0] at h
    obtain ⟨rfl, rfl⟩ : (0 : Int) = r1 ∧ true = r2 := by simpa using h
    clear h
    go_enter Try.func13, Try.ntmps13
    go_wp2_with (go_at_call 24; refine hn.mono ?_; rintro e w1 ⟨rfl, hb⟩; have HB := Aside0.mk hb; clear hb)
    refine wp_loop_rounds 6 ?_
    repeat (rw [rounds_succ]; go_wp2)
    go_ret2
    exact ⟨rfl, HB.out⟩
  rw [if_neg c0] at h
  replace c0 := Bool.eq_false_iff.mpr c0
  by_cases c1 : (([103, 111, 110, 101] : List UInt8) == a0.toList) = true
  · rw [if_pos c1] at h
    obtain ⟨rfl, rfl⟩ : (1 : Int) = r1 ∧ true = r2 := by simpa using h
    clear h
    go_enter Try.func13, Try.ntmps13
    go_wp2_with (go_at_call 24; refine hn.mono ?_; rintro e w1 ⟨rfl, hb⟩; have HB := Aside0.mk hb; clear hb)
    refine wp_loop_rounds 6 ?_
    repeat (rw [rounds_succ]; go_wp2)
    go_ret2
    exact ⟨rfl, HB.out⟩
  rw [if_neg c1] at h
  replace c1 := Bool.eq_false_iff.mpr c1
  by_cases c2 : (([97, 119, 97, 121] : List UInt8) == a0.toList) = true
  · rw [if_pos c2] at h
    obtain ⟨rfl, rfl⟩ : (2 : Int) = r1 ∧ true = r2 := by simpa using h
    clear h
    go_enter Try.func13, Try.ntmps13
    go_wp2_with (go_at_call 24; refine hn.mono ?_; rintro e w1 ⟨rfl, hb⟩; have HB := Aside0.mk hb; clear hb)
    refine wp_loop_rounds 6 ?_
    repeat (rw [rounds_succ]; go_wp2)
    go_ret2
    exact ⟨rfl, HB.out⟩
  rw [if_neg c2] at h
  replace c2 := Bool.eq_false_iff.mpr c2
  by_cases c3 : (([98, 117, 115, 121] : List UInt8) == a0.toList) = true
  · rw [if_pos c3] at h
    obtain ⟨rfl, rfl⟩ : (3 : Int) = r1 ∧ true = r2 := by simpa using h
    clear h
    go_enter Try.func13, Try.ntmps13
    go_wp2_with (go_at_call 24; refine hn.mono ?_; rintro e w1 ⟨rfl, hb⟩; have HB := Aside0.mk hb; clear hb)
    refine wp_loop_rounds 6 ?_
    repeat (rw [rounds_succ]; go_wp2)
    go_ret2
    exact ⟨rfl, HB.out⟩
  rw [if_neg c3] at h
  replace c3 := Bool.eq_false_iff.mpr c3
  by_cases c4 : (([111, 110, 108, 105, 110, 101] : List UInt8) == a0.toList) = true
  · rw [if_pos c4] at h
    obtain ⟨rfl, rfl⟩ : (4 : Int) = r1 ∧ true = r2 := by simpa using h
    clear h
    go_enter Try.func13, Try.ntmps13
    go_wp2_with (go_at_call 24; refine hn.mono ?_; rintro e w1 ⟨rfl, hb⟩; have HB := Aside0.mk hb; clear hb)
    refine wp_loop_rounds 6 ?_
    repeat (rw [rounds_succ]; go_wp2)
    go_ret2
    exact ⟨rfl, HB.out⟩
  rw [if_neg c4] at h
  replace c4 := Bool.eq_false_iff.mpr c4
  obtain ⟨rfl, rfl⟩ : (0 : Int) = r1 ∧ false = r2 := by simpa using h
  clear h
  go_enter Try.func13, Try.ntmps13
  go_wp2_with (go_at_call 24; refine hn.mono ?_; rintro e w1 ⟨rfl, hb⟩; have HB := Aside0.mk hb; clear hb)
  refine wp_loop_rounds 6 ?_
  repeat (rw [rounds_succ]; go_wp2)
  go_ret2
  exact ⟨rfl, HB.out⟩
end Go.Proofs.Ytgchnnkbknaklaa.XSay
