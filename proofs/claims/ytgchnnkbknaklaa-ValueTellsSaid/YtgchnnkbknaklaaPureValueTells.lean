/- The law ValueTells: the program and the reference tell the same of any value, any show and any name. -/
import Derived.Test.YtgchnnkbknaklaaPAx6
import Derived.Test.YtgchnnkbknaklaaXV04
import Derived.Test.YtgchnnkbknaklaaXSay
namespace Go.Proofs.Ytgchnnkbknaklaa.Pure
open Go.RowKit Go.Proofs.Ytgchnnkbknaklaa.PA Go.Proofs.YtgchnnkbknaklaaW.PrintWords Go.Proofs.YtgchnnkbknaklaaW.PrintLast Go.Proofs.Ytgchnnkbknaklaa.XVar Go.Proofs.Ytgchnnkbknaklaa.XBytes Go.Proofs.Ytgchnnkbknaklaa.XV01 Go.Proofs.Ytgchnnkbknaklaa.XCat Go.Proofs.Ytgchnnkbknaklaa.XV04
open Go.Proofs.Ytgchnnkbknaklaa.XSay (nm hearB)
set_option linter.unusedVariables false
set_option linter.unusedSimpArgs false
def saySB (a0 : Int) : ByteArray × Bool := if a0 < 0 ∨ 4 < a0 then (⟨#[]⟩, false) else (nm a0, true)
theorem say_f (a0 : Int) : value_Say.f a0 = some (saySB a0) := rfl
theorem hear_f (s : ByteArray) : value_Hear.f s = some (hearB s) := rfl
theorem refSay_f (a0 : Int) : rollcallref04_Say.f a0 = some (saySB a0) := by
  unfold rollcallref04_Say.f saySB
  by_cases c : a0 < 0
  · rw [if_pos c, if_pos (.inl c)]
  · rw [if_neg c]
    by_cases c2 : a0 > 4
    · rw [if_pos c2, if_pos (.inr c2)]
    · rw [if_neg c2, if_neg (by omega)]
      rcases (show a0 = 0 ∨ a0 = 1 ∨ a0 = 2 ∨ a0 = 3 ∨ a0 = 4 by omega) with rfl | rfl | rfl | rfl | rfl <;> rfl
theorem refHear_f (k : Nat) (s : ByteArray) (hk : 7 ≤ k) : rollcallref04_Hear.f k s = some (hearB s) := by
  obtain ⟨k, rfl⟩ : ∃ m, k = m + 6 := ⟨k - 6, by omega⟩
  have step : ∀ (j : Int) (m : Nat), 0 ≤ j → j < 5 → rollcallref04_Hear.l0 (m + 1) s j = if (nm j).toList = s.toList then some (j, true) else rollcallref04_Hear.l0 m s (j + 1) := by
    intro j m h0 h1
    rw [rollcallref04_Hear.l0, if_pos h1, wrap_id (j + 1) (by omega) (by omega)]
    rcases (show j = 0 ∨ j = 1 ∨ j = 2 ∨ j = 3 ∨ j = 4 by omega) with rfl | rfl | rfl | rfl | rfl <;> rfl
  have e0 : (nm 0).toList = [111, 102, 102] := by decide +kernel
  have e1 : (nm 1).toList = [103, 111, 110, 101] := by decide +kernel
  have e2 : (nm 2).toList = [97, 119, 97, 121] := by decide +kernel
  have e3 : (nm 3).toList = [98, 117, 115, 121] := by decide +kernel
  have e4 : (nm 4).toList = [111, 110, 108, 105, 110, 101] := by decide +kernel
  unfold rollcallref04_Hear.f hearB
  simp only [beq_iff_eq]
  rw [step 0 (k + 5) (by omega) (by omega), e0]
  split
  · rfl
  rw [show (0 : Int) + 1 = 1 from rfl, step 1 (k + 4) (by omega) (by omega), e1]
  split
  · rfl
  rw [show (1 : Int) + 1 = 2 from rfl, step 2 (k + 3) (by omega) (by omega), e2]
  split
  · rfl
  rw [show (2 : Int) + 1 = 3 from rfl, step 3 (k + 2) (by omega) (by omega), e3]
  split
  · rfl
  rw [show (3 : Int) + 1 = 4 from rfl, step 4 (k + 1) (by omega) (by omega), e4]
  split
  · rfl
  rw [show (4 : Int) + 1 = 5 from rfl, rollcallref04_Hear.l0, if_neg (by omega)]
theorem ValueTells : rollcalllaw04_ValueTells.Pure := by
  intro a0 a1 a2 a3 sh s _ _ _ _ _ _
  refine ⟨201, ?_⟩
  have key : ∀ q : Bool, rollcalllaw04_ValueTells.j0 201 sh s q a0 a1 a2 a3 = some true := by
    intro q
    rw [show (201 : Nat) = 200 + 1 from rfl, rollcalllaw04_ValueTells.j0, live_f 200 (by omega)]
    cases q
    · rw [if_neg (by simp), put_v 200 _ _ _ _ (by omega), refPut_v 200 _ _ _ _ (by omega), say_f, refSay_f, hear_f, refHear_f 200 s (by omega), may_f, refMay_f 200 _ _ _ _ (by omega)]
      simp
    · rw [if_pos rfl]; rfl
  unfold rollcalllaw04_ValueTells.f
  split <;> exact key _
end Go.Proofs.Ytgchnnkbknaklaa.Pure
