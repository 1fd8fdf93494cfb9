/- The law ValueBack: what is put is taken, wherever it stands; what is taken is what was put. -/
import Derived.Test.YtgchnnkbknaklaaPAx9
import Derived.Test.YtgchnnkbknaklaaXV04
namespace Go.Proofs.Ytgchnnkbknaklaa.Pure
open Go.RowKit Go.Proofs.Ytgchnnkbknaklaa.PA Go.Proofs.YtgchnnkbknaklaaW.PrintWords Go.Proofs.YtgchnnkbknaklaaW.PrintLast Go.Proofs.Ytgchnnkbknaklaa.XVar Go.Proofs.Ytgchnnkbknaklaa.XBytes Go.Proofs.Ytgchnnkbknaklaa.XV01 Go.Proofs.Ytgchnnkbknaklaa.XCat Go.Proofs.Ytgchnnkbknaklaa.XV04
open Go.Proofs.Ytgchnnkbknaklaa.XMay (mayB)
set_option linter.unusedVariables false
set_option linter.unusedSimpArgs false
theorem back2 (k : Nat) (s : ByteArray) (hs : s.size ≤ 140737488351232) (hk : 150 ≤ k) : rollcalllaw04_ValueBack.j2 k s = some true := by
  obtain ⟨k, rfl⟩ : ∃ m, k = m + 1 := ⟨k - 1, by omega⟩
  rw [rollcalllaw04_ValueBack.j2, take_v k s 0 hs (by omega) (by omega), live_f k (by omega)]
  simp only [Option.bind_some]
  rcases VT_shape s 0 hs with ⟨e, h, he⟩ | ⟨a0, a1, a2, a3, q, h, hm, h1, h2, h3, hx⟩
  · rw [h]
    simp only [er]
    rw [if_neg he, if_pos (by decide +kernel)]
    rfl
  · rw [h]
    simp only
    rw [if_pos trivial, put_v k _ _ _ _ (by omega)]
    simp only [Option.bind_some, PV]
    rw [if_pos hm]
    simp only
    rw [if_pos trivial, if_pos (by omega), if_pos h3, if_pos (by omega), ← hx, if_pos (by simp)]
theorem ValueBack : rollcalllaw04_ValueBack.Pure := by
  intro a0 a1 a2 a3 s t _ _ _ _ hs ht
  refine ⟨302, ?_⟩
  have key : ∀ q : Bool, (q = false → a3.size ≤ 300 ∧ s.size ≤ 300 ∧ t.size ≤ 300) → rollcalllaw04_ValueBack.j0 302 s t q a0 a1 a2 a3 = some true := by
    intro q hq
    rw [show (302 : Nat) = 301 + 1 from rfl, rollcalllaw04_ValueBack.j0, live_f 301 (by omega)]
    cases q
    · obtain ⟨q1, q2, q3⟩ := hq rfl
      have hj : rollcalllaw04_ValueBack.j1 301 s t (PV a0 a1 a2 a3).1 (PV a0 a1 a2 a3).2 false a0 a1 a2 a3 = some true := by
        rw [show (301 : Nat) = 300 + 1 from rfl, rollcalllaw04_ValueBack.j1, if_neg (by simp)]
        unfold PV
        by_cases c : mayB a0 a1 a2 a3 = true
        · have hV := Vb_size a0 a1 a2 a3
          have hP := P_le a2
          have hP2 := P_le (a3.size : Int)
          rw [if_pos c]
          simp only
          rw [if_pos trivial, if_pos (by omega), if_pos (by rw [app_size]; omega), take_v 300 _ _ (by rw [app_size, app_size]; omega) (by omega) (by omega), VT_put s t a0 a1 a2 a3 c]
          simp only [Option.bind_some]
          rw [if_pos trivial, if_neg (by simp), wrap_id _ (by omega) (by omega), if_pos rfl, back2 300 t ht (by omega)]
        · rw [if_neg c]
          simp only
          rw [if_neg (by simp), back2 300 t ht (by omega)]
      rw [if_neg (by simp), put_v 301 _ _ _ _ (by omega), may_f]
      simp only [Option.bind_some]
      have e1 : (PV a0 a1 a2 a3).2 = mayB a0 a1 a2 a3 := by
        unfold PV
        by_cases c : mayB a0 a1 a2 a3 = true
        · rw [if_pos c, c]
        · rw [if_neg c, Bool.eq_false_iff.mpr c]
      rw [if_neg (by rw [e1]; simp)]
      by_cases c : mayB a0 a1 a2 a3 = true
      · rw [if_pos (by rw [e1]; exact c)]
        exact hj
      · have e2 : (PV a0 a1 a2 a3).1 = ⟨#[]⟩ := by unfold PV; rw [if_neg c]
        rw [if_neg (by rw [e1]; exact c)]
        have e3 : ((PV a0 a1 a2 a3).1.toList != ([] : List UInt8)) = false := by rw [e2]; decide +kernel
        rw [e3]
        exact hj
    · rw [if_pos rfl]; rfl
  unfold rollcalllaw04_ValueBack.f
  by_cases c : (a3.size : Int) > 300
  · rw [if_pos c]; exact key _ (fun h => by cases h)
  · rw [if_neg c]
    by_cases c2 : (s.size : Int) > 300
    · rw [if_pos c2]; exact key _ (fun h => by cases h)
    · rw [if_neg c2]
      refine key _ (fun h => ⟨by omega, by omega, ?_⟩)
      simp only [decide_eq_false_iff_not] at h
      omega
end Go.Proofs.Ytgchnnkbknaklaa.Pure
