/- The law ValueApart: unlike values have unlike bytes, none of which begin another one's; a show that is said is heard. -/
import Derived.Test.YtgchnnkbknaklaaPAx10
import Derived.Test.YtgchnnkbknaklaaXV04
import Derived.Test.YtgchnnkbknaklaaXSay
namespace Go.Proofs.Ytgchnnkbknaklaa.Pure
open Go.RowKit Go.Proofs.Ytgchnnkbknaklaa.PA Go.Proofs.YtgchnnkbknaklaaW.PrintWords Go.Proofs.YtgchnnkbknaklaaW.PrintLast Go.Proofs.Ytgchnnkbknaklaa.XVar Go.Proofs.Ytgchnnkbknaklaa.XBytes Go.Proofs.Ytgchnnkbknaklaa.XV01 Go.Proofs.Ytgchnnkbknaklaa.XCat Go.Proofs.Ytgchnnkbknaklaa.XV04
open Go.Proofs.Ytgchnnkbknaklaa.XMay (mayB)
open Go.Proofs.Ytgchnnkbknaklaa.XSay (nm hearB)
set_option linter.unusedVariables false
set_option linter.unusedSimpArgs false
theorem Vb_begins (a0 a1 a2 : Int) (a3 : ByteArray) (b0 b1 b2 : Int) (b3 r : ByteArray) (ha : mayB a0 a1 a2 a3 = true) (hb : mayB b0 b1 b2 b3 = true) (h : Vb b0 b1 b2 b3 = Vb a0 a1 a2 a3 ++ r) : a0 = b0 ∧ a1 = b1 ∧ a2 = b2 ∧ a3 = b3 := by
  have h1 := VT_put ⟨#[]⟩ r a0 a1 a2 a3 ha
  have h2 := VT_put ⟨#[]⟩ ⟨#[]⟩ b0 b1 b2 b3 hb
  rw [nil_app] at h1 h2
  rw [app_nil, h, h1] at h2
  simp only [Prod.mk.injEq] at h2
  exact ⟨h2.1, h2.2.1, h2.2.2.1, h2.2.2.2.1⟩
theorem said (j : Int) (h0 : 0 ≤ j) (h1 : j ≤ 4) : hearB (nm j) = (j, true) := by
  rcases (show j = 0 ∨ j = 1 ∨ j = 2 ∨ j = 3 ∨ j = 4 by omega) with rfl | rfl | rfl | rfl | rfl <;> decide +kernel
theorem apart1 (k : Nat) (j : Int) (hk : 150 ≤ k) : rollcalllaw04_ValueApart.j1 k j false = some true := by
  obtain ⟨k, rfl⟩ : ∃ m, k = m + 1 := ⟨k - 1, by omega⟩
  rw [rollcalllaw04_ValueApart.j1, live_f k (by omega), if_neg (by simp)]
  have e1 : value_Say.f j = some (if j < 0 ∨ 4 < j then (⟨#[]⟩, false) else (nm j, true)) := rfl
  have e2 : ∀ s, value_Hear.f s = some (hearB s) := fun _ => rfl
  have e3 : hearB ⟨#[]⟩ = (0, false) := by decide +kernel
  rw [e1]
  simp only [Option.bind_some, e2]
  by_cases c : j < 0 ∨ 4 < j
  · rw [if_pos c]
    simp only
    rw [e3]
    simp
  · rw [if_neg c]
    simp only
    rw [said j (by omega) (by omega)]
    simp
theorem ValueApart : rollcalllaw04_ValueApart.Pure := by
  intro a0 a1 a2 a3 b0 b1 b2 b3 j _ _ _ _ _ _ _ _ _
  refine ⟨302, ?_⟩
  have key : ∀ q : Bool, rollcalllaw04_ValueApart.j0 302 j q a0 a1 a2 a3 b0 b1 b2 b3 = some true := by
    intro q
    rw [show (302 : Nat) = 301 + 1 from rfl, rollcalllaw04_ValueApart.j0, live_f 301 (by omega)]
    cases q
    · rw [if_neg (by simp), put_v 301 _ _ _ _ (by omega), put_v 301 _ _ _ _ (by omega), apart1 301 j (by omega)]
      simp only [Option.bind_some, PV]
      by_cases ha : mayB a0 a1 a2 a3 = true
      · rw [if_pos ha]
        by_cases hb : mayB b0 b1 b2 b3 = true
        · rw [if_pos hb]
          simp only
          rw [if_pos trivial, if_pos trivial]
          by_cases e : Vb a0 a1 a2 a3 = Vb b0 b1 b2 b3
          · obtain ⟨rfl, rfl, rfl, rfl⟩ := Vb_begins a0 a1 a2 a3 b0 b1 b2 b3 ⟨#[]⟩ ha hb (by rw [app_nil]; exact e.symm)
            rw [if_neg (by simp), if_neg (by omega)]
          · have e1 : ((Vb a0 a1 a2 a3).toList == (Vb b0 b1 b2 b3).toList) = false := beq_eq_false_iff_ne.mpr (fun h => e (toList_inj.1 h))
            have e2 : (a0 == b0 && (a1 == b1 && (a2 == b2 && (a3.toList == b3.toList)))) = false := by
              apply Bool.eq_false_iff.mpr
              intro h
              simp only [Bool.and_eq_true, beq_iff_eq, toList_inj] at h
              obtain ⟨rfl, rfl, rfl, rfl⟩ := h
              exact e rfl
            rw [e1, e2, if_neg (by simp)]
            by_cases c : ((Vb a0 a1 a2 a3).size : Int) < ((Vb b0 b1 b2 b3).size : Int)
            · rw [if_pos c, if_pos (by omega), if_pos (by omega)]
              have e3 : (((Vb b0 b1 b2 b3).extract 0 (Vb a0 a1 a2 a3).size).toList == (Vb a0 a1 a2 a3).toList) = false := by
                apply beq_eq_false_iff_ne.mpr
                intro h
                have h := toList_inj.1 h
                have hh : Vb b0 b1 b2 b3 = Vb a0 a1 a2 a3 ++ (Vb b0 b1 b2 b3).extract (Vb a0 a1 a2 a3).size (Vb b0 b1 b2 b3).size := by
                  generalize Vb b0 b1 b2 b3 = x at *
                  generalize Vb a0 a1 a2 a3 = y at *
                  rw [← h]
                  apply ba_ext
                  rw [app_data, ext_data, ext_data, ext_size, List.drop_zero, Nat.sub_zero, Nat.sub_zero]
                  have hx := size_len x
                  rw [Nat.min_eq_left (by omega), List.take_of_length_le (l := x.data.toList.drop y.size) (by rw [List.length_drop]; omega), List.take_append_drop]
                obtain ⟨rfl, rfl, rfl, rfl⟩ := Vb_begins a0 a1 a2 a3 b0 b1 b2 b3 _ ha hb hh
                exact e rfl
              rw [e3, apart1 301 j (by omega)]
            · rw [if_neg c]
        · rw [if_neg hb]
          simp only
          rw [if_pos trivial, if_neg (by simp)]
      · rw [if_neg ha]
        simp only
        rw [if_neg (by simp)]
    · rw [if_pos rfl]; rfl
  unfold rollcalllaw04_ValueApart.f
  split <;> exact key _
end Go.Proofs.Ytgchnnkbknaklaa.Pure
