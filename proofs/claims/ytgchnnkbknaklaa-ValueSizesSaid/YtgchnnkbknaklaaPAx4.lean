-- Written by a program of this session (wip/tools/xprint.py), which drives the kit's print.
import Derived.Test.YtgchnnkbknaklaaPAx0
import Derived.Test.YtgchnnkbknaklaaPAx1
import Derived.Test.YtgchnnkbknaklaaPAx2
import Derived.Test.YtgchnnkbknaklaaPAx3
namespace Go.Proofs.Ytgchnnkbknaklaa.PA
open Go.RowKit Go.Proofs.YtgchnnkbknaklaaW.PrintWords Go.Proofs.YtgchnnkbknaklaaW.PrintLast Go.Proofs.YtgchnnkbknaklaaW.PrintMore
attribute [local go_sem] max2_int min2_int max_two min_two max_three min_three max_four min_four   -- for this text's walks alone
set_option linter.unusedVariables false
set_option linter.unusedSimpArgs false

attribute [local go_sem high] eqA23
/-! ### rollcalllaw04_live: function 8 -/
def rollcalllaw04_live.f (k : Nat)  : Option (Bool) := (value_Put.f k 4 (-1) 300 (⟨#[104, 105]⟩ : ByteArray)).bind fun bt128 => ((value_Put.f k 0 0 0 (⟨#[]⟩ : ByteArray)).bind fun bt130 => (if 1 + bt128.1.size ≤ 9223372036854775807 then ((value_Take.f k ((⟨#[120]⟩ : ByteArray) ++ bt128.1) 1).bind fun bt132 => ((value_Take.f k (⟨#[4]⟩ : ByteArray) 0).bind fun bt139 => ((value_Take.f k (⟨#[5, 128, 5, 0]⟩ : ByteArray) 0).bind fun bt146 => ((value_Say.f 2).bind fun bt153 => ((value_Hear.f (⟨#[111, 110, 108, 105, 110, 101]⟩ : ByteArray)).bind fun bt155 => ((value_Hear.f (⟨#[111, 110]⟩ : ByteArray)).bind fun bt157 => (if bt128.1.toList = ([4, 127, 172, 2, 2, 104, 105] : List UInt8) then (if bt128.2 = true then (if bt130.2 = true then (some false) else (if (bt132.1 == 4 && (bt132.2.1 == (-1) && (bt132.2.2.1 == 300 && (bt132.2.2.2.1.toList == ([104, 105] : List UInt8))))) = true then (if bt132.2.2.2.2.1 = 8 then (if bt132.2.2.2.2.2 = 0 then (if bt139.2.2.2.2.2 = 2 then (if bt146.2.2.2.2.2 = 3 then (if bt153.1.toList = ([97, 119, 97, 121] : List UInt8) then (if bt153.2 = true then (if bt155.1 = 4 then (if bt155.2 = true then (if bt157.2 = true then (some false) else ((value_May.f 4 (-1) 300 (⟨#[104, 105]⟩ : ByteArray)).bind fun t159 => (if t159 = true then ((value_May.f 1 0 0 (⟨#[10]⟩ : ByteArray)).bind fun t160 => (some (!t160))) else (some false)))) else (some false)) else (some false)) else (some false)) else (some false)) else (some false)) else (some false)) else (some false)) else (some false)) else (some false))) else (some false)) else (some false)))))))) else (none)))
theorem rollcalllaw04_live.mono : ∀ k, LeO (rollcalllaw04_live.f k ) (rollcalllaw04_live.f (k + 1) ) := by
  intro  k
  unfold rollcalllaw04_live.f
  repeat' first
      | (with_reducible exact value_Put.mono _ _ _ _ _)
      | (with_reducible exact value_Take.mono _ _ _)
      | (with_reducible exact LeO.refl _)
      | (with_reducible exact LeO.none _)
      | (with_reducible refine LeO.ite ?_ ?_)
      | (with_reducible refine LeO.bind ?_ (fun _ => ?_))
      | exact value_Put.mono _ _ _ _ _
      | exact value_Take.mono _ _ _
      | exact LeO.none _
      | refine LeO.ite ?_ ?_
      | refine LeO.bind ?_ (fun _ => ?_)
set_option maxHeartbeats 8000000 in
set_option maxRecDepth 100000 in
theorem rollcalllaw04_live.callsT (k : Nat)  (r : Bool) (hT_ : r = true) (w : World) (h : rollcalllaw04_live.f k  = some r) :
    Calls Try.prog 8 #[] w fun e w' => e = .returned (.bool r) ∧ Below w.heap.size w w' := by
  have hu23 := Try.underlying23
  have HT := Aside0.mk hT_
  clear hT_
  have HB := Aside0.mk (Below.refl w.heap.size w)
  have H : ((value_Put.f k 4 (-1) 300 (⟨#[104, 105]⟩ : ByteArray)).bind fun bt128 => ((value_Put.f k 0 0 0 (⟨#[]⟩ : ByteArray)).bind fun bt130 => (if 1 + bt128.1.size ≤ 9223372036854775807 then ((value_Take.f k ((⟨#[120]⟩ : ByteArray) ++ bt128.1) 1).bind fun bt132 => ((value_Take.f k (⟨#[4]⟩ : ByteArray) 0).bind fun bt139 => ((value_Take.f k (⟨#[5, 128, 5, 0]⟩ : ByteArray) 0).bind fun bt146 => ((value_Say.f 2).bind fun bt153 => ((value_Hear.f (⟨#[111, 110, 108, 105, 110, 101]⟩ : ByteArray)).bind fun bt155 => ((value_Hear.f (⟨#[111, 110]⟩ : ByteArray)).bind fun bt157 => (if bt128.1.toList = ([4, 127, 172, 2, 2, 104, 105] : List UInt8) then (if bt128.2 = true then (if bt130.2 = true then (some false) else (if (bt132.1 == 4 && (bt132.2.1 == (-1) && (bt132.2.2.1 == 300 && (bt132.2.2.2.1.toList == ([104, 105] : List UInt8))))) = true then (if bt132.2.2.2.2.1 = 8 then (if bt132.2.2.2.2.2 = 0 then (if bt139.2.2.2.2.2 = 2 then (if bt146.2.2.2.2.2 = 3 then (if bt153.1.toList = ([97, 119, 97, 121] : List UInt8) then (if bt153.2 = true then (if bt155.1 = 4 then (if bt155.2 = true then (if bt157.2 = true then (some false) else ((value_May.f 4 (-1) 300 (⟨#[104, 105]⟩ : ByteArray)).bind fun t159 => (if t159 = true then ((value_May.f 1 0 0 (⟨#[10]⟩ : ByteArray)).bind fun t160 => (some (!t160))) else (some false)))) else (some false)) else (some false)) else (some false)) else (some false)) else (some false)) else (some false)) else (some false)) else (some false)) else (some false))) else (some false)) else (some false)))))))) else (none)))) = some r := h
  clear h
  replace H := Option.bind_eq_some_iff.mp H
  obtain ⟨⟨t128, t129⟩, A10, H⟩ := H
  replace H : ((value_Put.f k 0 0 0 (⟨#[]⟩ : ByteArray)).bind fun bt130 => (if 1 + t128.size ≤ 9223372036854775807 then ((value_Take.f k ((⟨#[120]⟩ : ByteArray) ++ t128) 1).bind fun bt132 => ((value_Take.f k (⟨#[4]⟩ : ByteArray) 0).bind fun bt139 => ((value_Take.f k (⟨#[5, 128, 5, 0]⟩ : ByteArray) 0).bind fun bt146 => ((value_Say.f 2).bind fun bt153 => ((value_Hear.f (⟨#[111, 110, 108, 105, 110, 101]⟩ : ByteArray)).bind fun bt155 => ((value_Hear.f (⟨#[111, 110]⟩ : ByteArray)).bind fun bt157 => (if t128.toList = ([4, 127, 172, 2, 2, 104, 105] : List UInt8) then (if t129 = true then (if bt130.2 = true then (some false) else (if (bt132.1 == 4 && (bt132.2.1 == (-1) && (bt132.2.2.1 == 300 && (bt132.2.2.2.1.toList == ([104, 105] : List UInt8))))) = true then (if bt132.2.2.2.2.1 = 8 then (if bt132.2.2.2.2.2 = 0 then (if bt139.2.2.2.2.2 = 2 then (if bt146.2.2.2.2.2 = 3 then (if bt153.1.toList = ([97, 119, 97, 121] : List UInt8) then (if bt153.2 = true then (if bt155.1 = 4 then (if bt155.2 = true then (if bt157.2 = true then (some false) else ((value_May.f 4 (-1) 300 (⟨#[104, 105]⟩ : ByteArray)).bind fun t159 => (if t159 = true then ((value_May.f 1 0 0 (⟨#[10]⟩ : ByteArray)).bind fun t160 => (some (!t160))) else (some false)))) else (some false)) else (some false)) else (some false)) else (some false)) else (some false)) else (some false)) else (some false)) else (some false)) else (some false))) else (some false)) else (some false)))))))) else (none))) = some r := H
  have A1 := Aside0.mk A10
  clear A10
  replace H := Option.bind_eq_some_iff.mp H
  obtain ⟨⟨t130, t131⟩, A20, H⟩ := H
  replace H : (if 1 + t128.size ≤ 9223372036854775807 then ((value_Take.f k ((⟨#[120]⟩ : ByteArray) ++ t128) 1).bind fun bt132 => ((value_Take.f k (⟨#[4]⟩ : ByteArray) 0).bind fun bt139 => ((value_Take.f k (⟨#[5, 128, 5, 0]⟩ : ByteArray) 0).bind fun bt146 => ((value_Say.f 2).bind fun bt153 => ((value_Hear.f (⟨#[111, 110, 108, 105, 110, 101]⟩ : ByteArray)).bind fun bt155 => ((value_Hear.f (⟨#[111, 110]⟩ : ByteArray)).bind fun bt157 => (if t128.toList = ([4, 127, 172, 2, 2, 104, 105] : List UInt8) then (if t129 = true then (if t131 = true then (some false) else (if (bt132.1 == 4 && (bt132.2.1 == (-1) && (bt132.2.2.1 == 300 && (bt132.2.2.2.1.toList == ([104, 105] : List UInt8))))) = true then (if bt132.2.2.2.2.1 = 8 then (if bt132.2.2.2.2.2 = 0 then (if bt139.2.2.2.2.2 = 2 then (if bt146.2.2.2.2.2 = 3 then (if bt153.1.toList = ([97, 119, 97, 121] : List UInt8) then (if bt153.2 = true then (if bt155.1 = 4 then (if bt155.2 = true then (if bt157.2 = true then (some false) else ((value_May.f 4 (-1) 300 (⟨#[104, 105]⟩ : ByteArray)).bind fun t159 => (if t159 = true then ((value_May.f 1 0 0 (⟨#[10]⟩ : ByteArray)).bind fun t160 => (some (!t160))) else (some false)))) else (some false)) else (some false)) else (some false)) else (some false)) else (some false)) else (some false)) else (some false)) else (some false)) else (some false))) else (some false)) else (some false)))))))) else (none)) = some r := H
  have A2 := Aside0.mk A20
  clear A20
  by_cases c3 : 1 + t128.size ≤ 9223372036854775807
  · rw [if_pos c3] at H
    have c3b0 := eq_true c3
    have c3b1 : decide (1 + t128.size ≤ 9223372036854775807) = true := decide_eq_true c3
    try have c3b2 : (9223372036854775807 < 1 + t128.size) = False := eq_false (Nat.not_lt.2 c3)
    (try (have c3b3 := c3b0; simp only [ByteArray.size_append] at c3b3))
    (try (have c3b4 := c3b2; simp only [ByteArray.size_append] at c3b4))
    clear c3
    replace H := Option.bind_eq_some_iff.mp H
    obtain ⟨⟨t132, t133, t134, t135, t136, t137⟩, A40, H⟩ := H
    replace H : ((value_Take.f k (⟨#[4]⟩ : ByteArray) 0).bind fun bt139 => ((value_Take.f k (⟨#[5, 128, 5, 0]⟩ : ByteArray) 0).bind fun bt146 => ((value_Say.f 2).bind fun bt153 => ((value_Hear.f (⟨#[111, 110, 108, 105, 110, 101]⟩ : ByteArray)).bind fun bt155 => ((value_Hear.f (⟨#[111, 110]⟩ : ByteArray)).bind fun bt157 => (if t128.toList = ([4, 127, 172, 2, 2, 104, 105] : List UInt8) then (if t129 = true then (if t131 = true then (some false) else (if (t132 == 4 && (t133 == (-1) && (t134 == 300 && (t135.toList == ([104, 105] : List UInt8))))) = true then (if t136 = 8 then (if t137 = 0 then (if bt139.2.2.2.2.2 = 2 then (if bt146.2.2.2.2.2 = 3 then (if bt153.1.toList = ([97, 119, 97, 121] : List UInt8) then (if bt153.2 = true then (if bt155.1 = 4 then (if bt155.2 = true then (if bt157.2 = true then (some false) else ((value_May.f 4 (-1) 300 (⟨#[104, 105]⟩ : ByteArray)).bind fun t159 => (if t159 = true then ((value_May.f 1 0 0 (⟨#[10]⟩ : ByteArray)).bind fun t160 => (some (!t160))) else (some false)))) else (some false)) else (some false)) else (some false)) else (some false)) else (some false)) else (some false)) else (some false)) else (some false)) else (some false))) else (some false)) else (some false))))))) = some r := H
    have A4 := Aside0.mk A40
    clear A40
    replace H := Option.bind_eq_some_iff.mp H
    obtain ⟨⟨t139, t140, t141, t142, t143, t144⟩, A50, H⟩ := H
    replace H : ((value_Take.f k (⟨#[5, 128, 5, 0]⟩ : ByteArray) 0).bind fun bt146 => ((value_Say.f 2).bind fun bt153 => ((value_Hear.f (⟨#[111, 110, 108, 105, 110, 101]⟩ : ByteArray)).bind fun bt155 => ((value_Hear.f (⟨#[111, 110]⟩ : ByteArray)).bind fun bt157 => (if t128.toList = ([4, 127, 172, 2, 2, 104, 105] : List UInt8) then (if t129 = true then (if t131 = true then (some false) else (if (t132 == 4 && (t133 == (-1) && (t134 == 300 && (t135.toList == ([104, 105] : List UInt8))))) = true then (if t136 = 8 then (if t137 = 0 then (if t144 = 2 then (if bt146.2.2.2.2.2 = 3 then (if bt153.1.toList = ([97, 119, 97, 121] : List UInt8) then (if bt153.2 = true then (if bt155.1 = 4 then (if bt155.2 = true then (if bt157.2 = true then (some false) else ((value_May.f 4 (-1) 300 (⟨#[104, 105]⟩ : ByteArray)).bind fun t159 => (if t159 = true then ((value_May.f 1 0 0 (⟨#[10]⟩ : ByteArray)).bind fun t160 => (some (!t160))) else (some false)))) else (some false)) else (some false)) else (some false)) else (some false)) else (some false)) else (some false)) else (some false)) else (some false)) else (some false))) else (some false)) else (some false)))))) = some r := H
    have A5 := Aside0.mk A50
    clear A50
    replace H := Option.bind_eq_some_iff.mp H
    obtain ⟨⟨t146, t147, t148, t149, t150, t151⟩, A60, H⟩ := H
    replace H : ((value_Say.f 2).bind fun bt153 => ((value_Hear.f (⟨#[111, 110, 108, 105, 110, 101]⟩ : ByteArray)).bind fun bt155 => ((value_Hear.f (⟨#[111, 110]⟩ : ByteArray)).bind fun bt157 => (if t128.toList = ([4, 127, 172, 2, 2, 104, 105] : List UInt8) then (if t129 = true then (if t131 = true then (some false) else (if (t132 == 4 && (t133 == (-1) && (t134 == 300 && (t135.toList == ([104, 105] : List UInt8))))) = true then (if t136 = 8 then (if t137 = 0 then (if t144 = 2 then (if t151 = 3 then (if bt153.1.toList = ([97, 119, 97, 121] : List UInt8) then (if bt153.2 = true then (if bt155.1 = 4 then (if bt155.2 = true then (if bt157.2 = true then (some false) else ((value_May.f 4 (-1) 300 (⟨#[104, 105]⟩ : ByteArray)).bind fun t159 => (if t159 = true then ((value_May.f 1 0 0 (⟨#[10]⟩ : ByteArray)).bind fun t160 => (some (!t160))) else (some false)))) else (some false)) else (some false)) else (some false)) else (some false)) else (some false)) else (some false)) else (some false)) else (some false)) else (some false))) else (some false)) else (some false))))) = some r := H
    have A6 := Aside0.mk A60
    clear A60
    replace H := Option.bind_eq_some_iff.mp H
    obtain ⟨⟨t153, t154⟩, A70, H⟩ := H
    replace H : ((value_Hear.f (⟨#[111, 110, 108, 105, 110, 101]⟩ : ByteArray)).bind fun bt155 => ((value_Hear.f (⟨#[111, 110]⟩ : ByteArray)).bind fun bt157 => (if t128.toList = ([4, 127, 172, 2, 2, 104, 105] : List UInt8) then (if t129 = true then (if t131 = true then (some false) else (if (t132 == 4 && (t133 == (-1) && (t134 == 300 && (t135.toList == ([104, 105] : List UInt8))))) = true then (if t136 = 8 then (if t137 = 0 then (if t144 = 2 then (if t151 = 3 then (if t153.toList = ([97, 119, 97, 121] : List UInt8) then (if t154 = true then (if bt155.1 = 4 then (if bt155.2 = true then (if bt157.2 = true then (some false) else ((value_May.f 4 (-1) 300 (⟨#[104, 105]⟩ : ByteArray)).bind fun t159 => (if t159 = true then ((value_May.f 1 0 0 (⟨#[10]⟩ : ByteArray)).bind fun t160 => (some (!t160))) else (some false)))) else (some false)) else (some false)) else (some false)) else (some false)) else (some false)) else (some false)) else (some false)) else (some false)) else (some false))) else (some false)) else (some false)))) = some r := H
    have A7 := Aside0.mk A70
    clear A70
    replace H := Option.bind_eq_some_iff.mp H
    obtain ⟨⟨t155, t156⟩, A80, H⟩ := H
    replace H : ((value_Hear.f (⟨#[111, 110]⟩ : ByteArray)).bind fun bt157 => (if t128.toList = ([4, 127, 172, 2, 2, 104, 105] : List UInt8) then (if t129 = true then (if t131 = true then (some false) else (if (t132 == 4 && (t133 == (-1) && (t134 == 300 && (t135.toList == ([104, 105] : List UInt8))))) = true then (if t136 = 8 then (if t137 = 0 then (if t144 = 2 then (if t151 = 3 then (if t153.toList = ([97, 119, 97, 121] : List UInt8) then (if t154 = true then (if t155 = 4 then (if t156 = true then (if bt157.2 = true then (some false) else ((value_May.f 4 (-1) 300 (⟨#[104, 105]⟩ : ByteArray)).bind fun t159 => (if t159 = true then ((value_May.f 1 0 0 (⟨#[10]⟩ : ByteArray)).bind fun t160 => (some (!t160))) else (some false)))) else (some false)) else (some false)) else (some false)) else (some false)) else (some false)) else (some false)) else (some false)) else (some false)) else (some false))) else (some false)) else (some false))) = some r := H
    have A8 := Aside0.mk A80
    clear A80
    replace H := Option.bind_eq_some_iff.mp H
    obtain ⟨⟨t157, t158⟩, A90, H⟩ := H
    replace H : (if t128.toList = ([4, 127, 172, 2, 2, 104, 105] : List UInt8) then (if t129 = true then (if t131 = true then (some false) else (if (t132 == 4 && (t133 == (-1) && (t134 == 300 && (t135.toList == ([104, 105] : List UInt8))))) = true then (if t136 = 8 then (if t137 = 0 then (if t144 = 2 then (if t151 = 3 then (if t153.toList = ([97, 119, 97, 121] : List UInt8) then (if t154 = true then (if t155 = 4 then (if t156 = true then (if t158 = true then (some false) else ((value_May.f 4 (-1) 300 (⟨#[104, 105]⟩ : ByteArray)).bind fun t159 => (if t159 = true then ((value_May.f 1 0 0 (⟨#[10]⟩ : ByteArray)).bind fun t160 => (some (!t160))) else (some false)))) else (some false)) else (some false)) else (some false)) else (some false)) else (some false)) else (some false)) else (some false)) else (some false)) else (some false))) else (some false)) else (some false)) = some r := H
    have A9 := Aside0.mk A90
    clear A90
    by_cases c10 : t128.toList = ([4, 127, 172, 2, 2, 104, 105] : List UInt8)
    · rw [if_pos c10] at H
      have c10b0 : (t128.toList == ([4, 127, 172, 2, 2, 104, 105] : List UInt8)) = true := beq_iff_eq.mpr c10
      have c10b1 : (t128.toList != ([4, 127, 172, 2, 2, 104, 105] : List UInt8)) = false := bne_eq_false_iff_eq.mpr c10
      clear c10
      by_cases c11 : t129 = true
      · subst c11
        have H1 : (if t131 = true then (some false) else (if (t132 == 4 && (t133 == (-1) && (t134 == 300 && (t135.toList == ([104, 105] : List UInt8))))) = true then (if t136 = 8 then (if t137 = 0 then (if t144 = 2 then (if t151 = 3 then (if t153.toList = ([97, 119, 97, 121] : List UInt8) then (if t154 = true then (if t155 = 4 then (if t156 = true then (if t158 = true then (some false) else ((value_May.f 4 (-1) 300 (⟨#[104, 105]⟩ : ByteArray)).bind fun t159 => (if t159 = true then ((value_May.f 1 0 0 (⟨#[10]⟩ : ByteArray)).bind fun t160 => (some (!t160))) else (some false)))) else (some false)) else (some false)) else (some false)) else (some false)) else (some false)) else (some false)) else (some false)) else (some false)) else (some false))) = some r := by rw [if_pos rfl] at H; exact H
        clear H
        have H := H1
        clear H1
        by_cases c12 : t131 = true
        · subst c12
          have H1 : (some false) = some r := by rw [if_pos rfl] at H; exact H
          clear H
          have H := H1
          clear H1
          exact absurd ((Option.some.inj H).trans HT.out) (by simp)
        · replace c12 := Bool.eq_false_iff.mpr c12
          subst c12
          have H1 : (if (t132 == 4 && (t133 == (-1) && (t134 == 300 && (t135.toList == ([104, 105] : List UInt8))))) = true then (if t136 = 8 then (if t137 = 0 then (if t144 = 2 then (if t151 = 3 then (if t153.toList = ([97, 119, 97, 121] : List UInt8) then (if t154 = true then (if t155 = 4 then (if t156 = true then (if t158 = true then (some false) else ((value_May.f 4 (-1) 300 (⟨#[104, 105]⟩ : ByteArray)).bind fun t159 => (if t159 = true then ((value_May.f 1 0 0 (⟨#[10]⟩ : ByteArray)).bind fun t160 => (some (!t160))) else (some false)))) else (some false)) else (some false)) else (some false)) else (some false)) else (some false)) else (some false)) else (some false)) else (some false)) else (some false)) = some r := by rw [if_neg (show ¬ (false = true) by decide)] at H; exact H
          clear H
          have H := H1
          clear H1
          by_cases c13 : (t132 == 4 && (t133 == (-1) && (t134 == 300 && (t135.toList == ([104, 105] : List UInt8))))) = true
          · rw [if_pos c13] at H
            have c13b0 : (t132 == 4 && (t133 == (-1) && (t134 == 300 && (t135.toList == ([104, 105] : List UInt8))))) = true := c13
            (try (have c13b1 : decide (t132 = 4 && (t133 == (-1) && (t134 == 300 && (t135.toList == ([104, 105] : List UInt8))))) = true := by simpa using c13))
            (try (have c13b2 : (t132 == 4 && (t133 == (-1) && (t134 == 300 && (t135.toList == ([104, 105] : List UInt8))))) = true := by simpa using c13))
            clear c13
            by_cases c14 : t136 = 8
            · rw [if_pos c14] at H
              have c14b0 : (t136 == 8) = true := beq_iff_eq.mpr c14
              have c14b1 : (t136 != 8) = false := bne_eq_false_iff_eq.mpr c14
              clear c14
              by_cases c15 : t137 = 0
              · rw [if_pos c15] at H
                have c15b0 : (t137 == 0) = true := beq_iff_eq.mpr c15
                have c15b1 : (t137 != 0) = false := bne_eq_false_iff_eq.mpr c15
                clear c15
                by_cases c16 : t144 = 2
                · rw [if_pos c16] at H
                  have c16b0 : (t144 == 2) = true := beq_iff_eq.mpr c16
                  have c16b1 : (t144 != 2) = false := bne_eq_false_iff_eq.mpr c16
                  clear c16
                  by_cases c17 : t151 = 3
                  · rw [if_pos c17] at H
                    have c17b0 : (t151 == 3) = true := beq_iff_eq.mpr c17
                    have c17b1 : (t151 != 3) = false := bne_eq_false_iff_eq.mpr c17
                    clear c17
                    by_cases c18 : t153.toList = ([97, 119, 97, 121] : List UInt8)
                    · rw [if_pos c18] at H
                      have c18b0 : (t153.toList == ([97, 119, 97, 121] : List UInt8)) = true := beq_iff_eq.mpr c18
                      have c18b1 : (t153.toList != ([97, 119, 97, 121] : List UInt8)) = false := bne_eq_false_iff_eq.mpr c18
                      clear c18
                      by_cases c19 : t154 = true
                      · subst c19
                        have H1 : (if t155 = 4 then (if t156 = true then (if t158 = true then (some false) else ((value_May.f 4 (-1) 300 (⟨#[104, 105]⟩ : ByteArray)).bind fun t159 => (if t159 = true then ((value_May.f 1 0 0 (⟨#[10]⟩ : ByteArray)).bind fun t160 => (some (!t160))) else (some false)))) else (some false)) else (some false)) = some r := by rw [if_pos rfl] at H; exact H
                        clear H
                        have H := H1
                        clear H1
                        by_cases c20 : t155 = 4
                        · rw [if_pos c20] at H
                          have c20b0 : (t155 == 4) = true := beq_iff_eq.mpr c20
                          have c20b1 : (t155 != 4) = false := bne_eq_false_iff_eq.mpr c20
                          clear c20
                          by_cases c21 : t156 = true
                          · subst c21
                            have H1 : (if t158 = true then (some false) else ((value_May.f 4 (-1) 300 (⟨#[104, 105]⟩ : ByteArray)).bind fun t159 => (if t159 = true then ((value_May.f 1 0 0 (⟨#[10]⟩ : ByteArray)).bind fun t160 => (some (!t160))) else (some false)))) = some r := by rw [if_pos rfl] at H; exact H
                            clear H
                            have H := H1
                            clear H1
                            by_cases c22 : t158 = true
                            · subst c22
                              have H1 : (some false) = some r := by rw [if_pos rfl] at H; exact H
                              clear H
                              have H := H1
                              clear H1
                              exact absurd ((Option.some.inj H).trans HT.out) (by simp)
                            · replace c22 := Bool.eq_false_iff.mpr c22
                              subst c22
                              have H1 : ((value_May.f 4 (-1) 300 (⟨#[104, 105]⟩ : ByteArray)).bind fun t159 => (if t159 = true then ((value_May.f 1 0 0 (⟨#[10]⟩ : ByteArray)).bind fun t160 => (some (!t160))) else (some false))) = some r := by rw [if_neg (show ¬ (false = true) by decide)] at H; exact H
                              clear H
                              have H := H1
                              clear H1
                              replace H := Option.bind_eq_some_iff.mp H
                              obtain ⟨t159, A230, H⟩ := H
                              replace H : (if t159 = true then ((value_May.f 1 0 0 (⟨#[10]⟩ : ByteArray)).bind fun t160 => (some (!t160))) else (some false)) = some r := H
                              have A23 := Aside0.mk A230
                              clear A230
                              by_cases c24 : t159 = true
                              · subst c24
                                have H1 : ((value_May.f 1 0 0 (⟨#[10]⟩ : ByteArray)).bind fun t160 => (some (!t160))) = some r := by rw [if_pos rfl] at H; exact H
                                clear H
                                have H := H1
                                clear H1
                                replace H := Option.bind_eq_some_iff.mp H
                                obtain ⟨t160, A250, H⟩ := H
                                replace H : (some (!t160)) = some r := H
                                have A25 := Aside0.mk A250
                                clear A250
                                obtain rfl := Option.some.inj H
                                go_enter Try.func8, Try.ntmps8
                                go_wp2_with (first | ((with_reducible refine gate_dst (N := 1) rfl ?_); refine box_event ?hg (N := 1) ?hd (cs := #[.int .i64 0, .int .i64 0, .int .i64 0, .string (⟨#[]⟩ : ByteArray)]) (t := 23) ?hr ?_; (case hd => rfl); (case hg => rfl); (case hr => first | (go_simp; done) | (go_simp; rfl)); intro gb127 hg w26 hbox hb; have n0_ := Aside0.mk (below_step (by repeat (first | (with_reducible first | exact HB.out | apply below_alloc | apply pw_below_drewN | apply below_drew1) | exact HB.out)) hb); have n1_ := Aside0.mk (hbox); have n2_ := Aside0.mk ((by rw [hg]; exact (below_size (by repeat (first | (with_reducible first | exact HB.out | apply below_alloc | apply pw_below_drewN | apply below_drew1) | exact HB.out))) : w.heap.size ≤ gb127)); have n3_ := Aside0.mk ((by rw [hg]; exact (below_size (by repeat (first | (with_reducible first | exact HB.out | apply below_alloc | apply pw_below_drewN | apply below_drew1) | exact HB.out))) : w.heap.size ≤ gb127)); clear HB; have HB := n0_; have BK127 := n1_; have GW127 := n2_; have GE127 := n3_; clear n0_ n1_ n2_ n3_; clear hb hbox hg; have hcz27_0 : w26.cell? ⟨gb127, 0, none⟩ = some (.int .i64 0) := (blk_cell BK127.out 0).trans rfl; have hcz27_1 : w26.cell? ⟨gb127, 1, none⟩ = some (.int .i64 0) := (blk_cell BK127.out 1).trans rfl; have hcz27_2 : w26.cell? ⟨gb127, 2, none⟩ = some (.int .i64 0) := (blk_cell BK127.out 2).trans rfl; have hcz27_3 : w26.cell? ⟨gb127, 3, none⟩ = some (.string (⟨#[]⟩ : ByteArray)) := (blk_cell BK127.out 3).trans rfl; have hfz27_0 := blk_frozen BK127.out 0; have hfz27_1 := blk_frozen BK127.out 1; have hfz27_2 := blk_frozen BK127.out 2; have hfz27_3 := blk_frozen BK127.out 3) | ((with_reducible refine gate_callee (f := 9) rfl ?_); refine goesL_ (some 24) rfl rfl Try.func9 (by kernel_rfl) rfl #[.agg #[.int .i64 4, .int .i64 (-1), .int .i64 300, .string (⟨#[104, 105]⟩ : ByteArray)]] rfl (by (try simp only [List.map_toArray, List.map_cons, List.map_nil]); first | done | rfl | (simp only [List.length_drop, List.length_take]; rfl)) ?_; (with_reducible refine (value_Put.calls k 4 (-1) 300 (⟨#[104, 105]⟩ : ByteArray) t128 true _ A1.out).mono ?_); rintro e w28 ⟨rfl, hb⟩; refine ⟨_, rfl, ?_⟩; have n0_ := Aside0.mk (blk_below (g := gb127) (o := .cells #[.int .i64 4, .int .i64 (-1), .int .i64 300, .string (⟨#[104, 105]⟩ : ByteArray)] 23 (0, 0)) (by (with_reducible repeat (first | refine blk_drewN ?_ _ | refine blk_drew ?_ | refine blk_alloc ?_ _)); refine blk_put (cs := #[.int .i64 4, .int .i64 (-1), .int .i64 300, .string (⟨#[]⟩ : ByteArray)]) ?_ 3 _ rfl; (with_reducible repeat (first | refine blk_drewN ?_ _ | refine blk_drew ?_ | refine blk_alloc ?_ _)); refine blk_put (cs := #[.int .i64 4, .int .i64 (-1), .int .i64 0, .string (⟨#[]⟩ : ByteArray)]) ?_ 2 _ rfl; (with_reducible repeat (first | refine blk_drewN ?_ _ | refine blk_drew ?_ | refine blk_alloc ?_ _)); refine blk_put (cs := #[.int .i64 4, .int .i64 0, .int .i64 0, .string (⟨#[]⟩ : ByteArray)]) ?_ 1 _ rfl; (with_reducible repeat (first | refine blk_drewN ?_ _ | refine blk_drew ?_ | refine blk_alloc ?_ _)); refine blk_put (cs := #[.int .i64 0, .int .i64 0, .int .i64 0, .string (⟨#[]⟩ : ByteArray)]) ?_ 0 _ rfl; (with_reducible repeat (first | refine blk_drewN ?_ _ | refine blk_drew ?_ | refine blk_alloc ?_ _)); exact BK127.out) hb); have n1_ := Aside0.mk (below_step (by repeat (first | (with_reducible first | exact HB.out | apply below_alloc | apply pw_below_drewN | apply below_drew1 | refine below_set ?_ GE127.out) | exact HB.out)) hb); clear BK127; clear HB; have BK127 := n0_; have HB := n1_; clear n0_ n1_; (try clear hb); (try clear hb2); (try clear hk); (try clear hi)) | ((with_reducible refine gate_callee (f := 9) rfl ?_); refine goesL_ (some 29) rfl rfl Try.func9 (by kernel_rfl) rfl #[.agg #[.int .i64 0, .int .i64 0, .int .i64 0, .string (⟨#[]⟩ : ByteArray)]] rfl (by (try simp only [List.map_toArray, List.map_cons, List.map_nil]); first | done | rfl | (simp only [List.length_drop, List.length_take]; rfl)) ?_; (with_reducible refine (value_Put.calls k 0 0 0 (⟨#[]⟩ : ByteArray) t130 false _ A2.out).mono ?_); rintro e w29 ⟨rfl, hb⟩; refine ⟨_, rfl, ?_⟩; have n0_ := Aside0.mk (blk_below (g := gb127) (o := .cells #[.int .i64 4, .int .i64 (-1), .int .i64 300, .string (⟨#[104, 105]⟩ : ByteArray)] 23 (0, 0)) (by (with_reducible repeat (first | refine blk_drewN ?_ _ | refine blk_drew ?_ | refine blk_alloc ?_ _)); exact BK127.out) hb); have n1_ := Aside0.mk (below_step (by repeat (first | (with_reducible first | exact HB.out | apply below_alloc | apply pw_below_drewN | apply below_drew1 | refine below_set ?_ GE127.out) | exact HB.out)) hb); clear BK127; clear HB; have BK127 := n0_; have HB := n1_; clear n0_ n1_; (try clear hb); (try clear hb2); (try clear hk); (try clear hi)) | ((with_reducible refine gate_callee (f := 17) rfl ?_); refine goesL_ (some 35) rfl rfl Try.func17 (by kernel_rfl) rfl #[.string ((⟨#[120]⟩ : ByteArray) ++ t128), .int .i64 1] rfl (by (try simp only [List.map_toArray, List.map_cons, List.map_nil]); first | done | rfl | (simp only [List.length_drop, List.length_take]; rfl)) ?_; (with_reducible refine (value_Take.calls k ((⟨#[120]⟩ : ByteArray) ++ t128) 1 t132 t133 t134 t135 t136 t137 _ A4.out).mono ?_); rintro e w30 ⟨rfl, hb⟩; refine ⟨_, rfl, ?_⟩; have n0_ := Aside0.mk (blk_below (g := gb127) (o := .cells #[.int .i64 4, .int .i64 (-1), .int .i64 300, .string (⟨#[104, 105]⟩ : ByteArray)] 23 (0, 0)) (by (with_reducible repeat (first | refine blk_drewN ?_ _ | refine blk_drew ?_ | refine blk_alloc ?_ _)); exact BK127.out) hb); have n1_ := Aside0.mk (below_step (by repeat (first | (with_reducible first | exact HB.out | apply below_alloc | apply pw_below_drewN | apply below_drew1 | refine below_set ?_ GE127.out) | exact HB.out)) hb); clear BK127; clear HB; have BK127 := n0_; have HB := n1_; clear n0_ n1_; (try clear hb); (try clear hb2); (try clear hk); (try clear hi)) | ((with_reducible refine gate_dst (N := 6) rfl ?_); refine box_event ?hg (N := 6) ?hd (cs := #[.int .i64 0, .int .i64 0, .int .i64 0, .string (⟨#[]⟩ : ByteArray)]) (t := 23) ?hr ?_; (case hd => rfl); (case hg => rfl); (case hr => first | (go_simp; done) | (go_simp; rfl)); intro gb138 hg w31 hbox hb; have n0_ := Aside0.mk (blk_below (g := gb127) (o := .cells #[.int .i64 4, .int .i64 (-1), .int .i64 300, .string (⟨#[104, 105]⟩ : ByteArray)] 23 (0, 0)) (by (with_reducible repeat (first | refine blk_drewN ?_ _ | refine blk_drew ?_ | refine blk_alloc ?_ _)); exact BK127.out) hb); have n1_ := Aside0.mk (below_step (by repeat (first | (with_reducible first | exact HB.out | apply below_alloc | apply pw_below_drewN | apply below_drew1 | refine below_set ?_ GE127.out) | exact HB.out)) hb); have n2_ := Aside0.mk (hbox); have n3_ := Aside0.mk ((by rw [hg]; exact (below_size (by repeat (first | (with_reducible first | exact HB.out | apply below_alloc | apply pw_below_drewN | apply below_drew1 | refine below_set ?_ GE127.out) | exact HB.out))) : w.heap.size ≤ gb138)); have n4_ := Aside0.mk ((by rw [hg]; exact (below_size (by repeat (first | (with_reducible first | exact HB.out | apply below_alloc | apply pw_below_drewN | apply below_drew1 | refine below_set ?_ GE127.out) | exact HB.out))) : w.heap.size ≤ gb138)); have n5_ := Aside0.mk ((by rw [hg]; exact Nat.ne_of_lt (blk_lt (g := gb127) (o := .cells #[.int .i64 4, .int .i64 (-1), .int .i64 300, .string (⟨#[104, 105]⟩ : ByteArray)] 23 (0, 0)) (by (with_reducible repeat (first | refine blk_drewN ?_ _ | refine blk_drew ?_ | refine blk_alloc ?_ _)); exact BK127.out)) : gb127 ≠ gb138)); have n6_ := Aside0.mk ((by rw [hg]; exact Nat.ne_of_gt (blk_lt (g := gb127) (o := .cells #[.int .i64 4, .int .i64 (-1), .int .i64 300, .string (⟨#[104, 105]⟩ : ByteArray)] 23 (0, 0)) (by (with_reducible repeat (first | refine blk_drewN ?_ _ | refine blk_drew ?_ | refine blk_alloc ?_ _)); exact BK127.out)) : gb138 ≠ gb127)); clear BK127; clear HB; have BK127 := n0_; have HB := n1_; have BK138 := n2_; have GW138 := n3_; have GE138 := n4_; have NB127_138 := n5_; have NB138_127 := n6_; clear n0_ n1_ n2_ n3_ n4_ n5_ n6_; clear hb hbox hg; have hnb32 := NB138_127.out; have hnc32 := NB127_138.out; have hcz33_0 : w31.cell? ⟨gb138, 0, none⟩ = some (.int .i64 0) := (blk_cell BK138.out 0).trans rfl; have hcz33_1 : w31.cell? ⟨gb138, 1, none⟩ = some (.int .i64 0) := (blk_cell BK138.out 1).trans rfl; have hcz33_2 : w31.cell? ⟨gb138, 2, none⟩ = some (.int .i64 0) := (blk_cell BK138.out 2).trans rfl; have hcz33_3 : w31.cell? ⟨gb138, 3, none⟩ = some (.string (⟨#[]⟩ : ByteArray)) := (blk_cell BK138.out 3).trans rfl; have hfz33_0 := blk_frozen BK138.out 0; have hfz33_1 := blk_frozen BK138.out 1; have hfz33_2 := blk_frozen BK138.out 2; have hfz33_3 := blk_frozen BK138.out 3) | ((with_reducible refine gate_callee (f := 17) rfl ?_); refine goesL_ (some 40) rfl rfl Try.func17 (by kernel_rfl) rfl #[.string (⟨#[4]⟩ : ByteArray), .int .i64 0] rfl (by (try simp only [List.map_toArray, List.map_cons, List.map_nil]); first | done | rfl | (simp only [List.length_drop, List.length_take]; rfl)) ?_; (with_reducible refine (value_Take.calls k (⟨#[4]⟩ : ByteArray) 0 t139 t140 t141 t142 t143 t144 _ A5.out).mono ?_); rintro e w34 ⟨rfl, hb⟩; refine ⟨_, rfl, ?_⟩; have n0_ := Aside0.mk (blk_below (g := gb127) (o := .cells #[.int .i64 4, .int .i64 (-1), .int .i64 300, .string (⟨#[104, 105]⟩ : ByteArray)] 23 (0, 0)) (by (with_reducible repeat (first | refine blk_drewN ?_ _ | refine blk_drew ?_ | refine blk_alloc ?_ _)); refine blk_far ?_ NB127_138.out _; (with_reducible repeat (first | refine blk_drewN ?_ _ | refine blk_drew ?_ | refine blk_alloc ?_ _)); refine blk_far ?_ NB127_138.out _; (with_reducible repeat (first | refine blk_drewN ?_ _ | refine blk_drew ?_ | refine blk_alloc ?_ _)); refine blk_far ?_ NB127_138.out _; (with_reducible repeat (first | refine blk_drewN ?_ _ | refine blk_drew ?_ | refine blk_alloc ?_ _)); refine blk_far ?_ NB127_138.out _; (with_reducible repeat (first | refine blk_drewN ?_ _ | refine blk_drew ?_ | refine blk_alloc ?_ _)); exact BK127.out) hb); have n1_ := Aside0.mk (blk_below (g := gb138) (o := .cells #[.int .i64 t132, .int .i64 t133, .int .i64 t134, .string t135] 23 (0, 0)) (by (with_reducible repeat (first | refine blk_drewN ?_ _ | refine blk_drew ?_ | refine blk_alloc ?_ _)); refine blk_put (cs := #[.int .i64 t132, .int .i64 t133, .int .i64 t134, .string (⟨#[]⟩ : ByteArray)]) ?_ 3 _ rfl; (with_reducible repeat (first | refine blk_drewN ?_ _ | refine blk_drew ?_ | refine blk_alloc ?_ _)); refine blk_put (cs := #[.int .i64 t132, .int .i64 t133, .int .i64 0, .string (⟨#[]⟩ : ByteArray)]) ?_ 2 _ rfl; (with_reducible repeat (first | refine blk_drewN ?_ _ | refine blk_drew ?_ | refine blk_alloc ?_ _)); refine blk_put (cs := #[.int .i64 t132, .int .i64 0, .int .i64 0, .string (⟨#[]⟩ : ByteArray)]) ?_ 1 _ rfl; (with_reducible repeat (first | refine blk_drewN ?_ _ | refine blk_drew ?_ | refine blk_alloc ?_ _)); refine blk_put (cs := #[.int .i64 0, .int .i64 0, .int .i64 0, .string (⟨#[]⟩ : ByteArray)]) ?_ 0 _ rfl; (with_reducible repeat (first | refine blk_drewN ?_ _ | refine blk_drew ?_ | refine blk_alloc ?_ _)); exact BK138.out) hb); have n2_ := Aside0.mk (below_step (by repeat (first | (with_reducible first | exact HB.out | apply below_alloc | apply pw_below_drewN | apply below_drew1 | refine below_set ?_ GE127.out | refine below_set ?_ GE138.out) | exact HB.out)) hb); clear BK127; clear BK138; clear HB; have BK127 := n0_; have BK138 := n1_; have HB := n2_; clear n0_ n1_ n2_; (try clear hb); (try clear hb2); (try clear hk); (try clear hi)) | ((with_reducible refine gate_dst (N := 9) rfl ?_); refine box_event ?hg (N := 9) ?hd (cs := #[.int .i64 0, .int .i64 0, .int .i64 0, .string (⟨#[]⟩ : ByteArray)]) (t := 23) ?hr ?_; (case hd => rfl); (case hg => rfl); (case hr => first | (go_simp; done) | (go_simp; rfl)); intro gb145 hg w35 hbox hb; have n0_ := Aside0.mk (blk_below (g := gb127) (o := .cells #[.int .i64 4, .int .i64 (-1), .int .i64 300, .string (⟨#[104, 105]⟩ : ByteArray)] 23 (0, 0)) (by (with_reducible repeat (first | refine blk_drewN ?_ _ | refine blk_drew ?_ | refine blk_alloc ?_ _)); exact BK127.out) hb); have n1_ := Aside0.mk (blk_below (g := gb138) (o := .cells #[.int .i64 t132, .int .i64 t133, .int .i64 t134, .string t135] 23 (0, 0)) (by (with_reducible repeat (first | refine blk_drewN ?_ _ | refine blk_drew ?_ | refine blk_alloc ?_ _)); exact BK138.out) hb); have n2_ := Aside0.mk (below_step (by repeat (first | (with_reducible first | exact HB.out | apply below_alloc | apply pw_below_drewN | apply below_drew1 | refine below_set ?_ GE127.out | refine below_set ?_ GE138.out) | exact HB.out)) hb); have n3_ := Aside0.mk (hbox); have n4_ := Aside0.mk ((by rw [hg]; exact (below_size (by repeat (first | (with_reducible first | exact HB.out | apply below_alloc | apply pw_below_drewN | apply below_drew1 | refine below_set ?_ GE127.out | refine below_set ?_ GE138.out) | exact HB.out))) : w.heap.size ≤ gb145)); have n5_ := Aside0.mk ((by rw [hg]; exact (below_size (by repeat (first | (with_reducible first | exact HB.out | apply below_alloc | apply pw_below_drewN | apply below_drew1 | refine below_set ?_ GE127.out | refine below_set ?_ GE138.out) | exact HB.out))) : w.heap.size ≤ gb145)); have n6_ := Aside0.mk ((by rw [hg]; exact Nat.ne_of_lt (blk_lt (g := gb127) (o := .cells #[.int .i64 4, .int .i64 (-1), .int .i64 300, .string (⟨#[104, 105]⟩ : ByteArray)] 23 (0, 0)) (by (with_reducible repeat (first | refine blk_drewN ?_ _ | refine blk_drew ?_ | refine blk_alloc ?_ _)); exact BK127.out)) : gb127 ≠ gb145)); have n7_ := Aside0.mk ((by rw [hg]; exact Nat.ne_of_gt (blk_lt (g := gb127) (o := .cells #[.int .i64 4, .int .i64 (-1), .int .i64 300, .string (⟨#[104, 105]⟩ : ByteArray)] 23 (0, 0)) (by (with_reducible repeat (first | refine blk_drewN ?_ _ | refine blk_drew ?_ | refine blk_alloc ?_ _)); exact BK127.out)) : gb145 ≠ gb127)); have n8_ := Aside0.mk ((by rw [hg]; exact Nat.ne_of_lt (blk_lt (g := gb138) (o := .cells #[.int .i64 t132, .int .i64 t133, .int .i64 t134, .string t135] 23 (0, 0)) (by (with_reducible repeat (first | refine blk_drewN ?_ _ | refine blk_drew ?_ | refine blk_alloc ?_ _)); exact BK138.out)) : gb138 ≠ gb145)); have n9_ := Aside0.mk ((by rw [hg]; exact Nat.ne_of_gt (blk_lt (g := gb138) (o := .cells #[.int .i64 t132, .int .i64 t133, .int .i64 t134, .string t135] 23 (0, 0)) (by (with_reducible repeat (first | refine blk_drewN ?_ _ | refine blk_drew ?_ | refine blk_alloc ?_ _)); exact BK138.out)) : gb145 ≠ gb138)); clear BK127; clear BK138; clear HB; have BK127 := n0_; have BK138 := n1_; have HB := n2_; have BK145 := n3_; have GW145 := n4_; have GE145 := n5_; have NB127_145 := n6_; have NB145_127 := n7_; have NB138_145 := n8_; have NB145_138 := n9_; clear n0_ n1_ n2_ n3_ n4_ n5_ n6_ n7_ n8_ n9_; clear hb hbox hg; have hnb36 := NB145_127.out; have hnc36 := NB127_145.out; have hnb37 := NB145_138.out; have hnc37 := NB138_145.out; have hcz38_0 : w35.cell? ⟨gb145, 0, none⟩ = some (.int .i64 0) := (blk_cell BK145.out 0).trans rfl; have hcz38_1 : w35.cell? ⟨gb145, 1, none⟩ = some (.int .i64 0) := (blk_cell BK145.out 1).trans rfl; have hcz38_2 : w35.cell? ⟨gb145, 2, none⟩ = some (.int .i64 0) := (blk_cell BK145.out 2).trans rfl; have hcz38_3 : w35.cell? ⟨gb145, 3, none⟩ = some (.string (⟨#[]⟩ : ByteArray)) := (blk_cell BK145.out 3).trans rfl; have hfz38_0 := blk_frozen BK145.out 0; have hfz38_1 := blk_frozen BK145.out 1; have hfz38_2 := blk_frozen BK145.out 2; have hfz38_3 := blk_frozen BK145.out 3) | ((with_reducible refine gate_callee (f := 17) rfl ?_); refine goesL_ (some 45) rfl rfl Try.func17 (by kernel_rfl) rfl #[.string (⟨#[5, 128, 5, 0]⟩ : ByteArray), .int .i64 0] rfl (by (try simp only [List.map_toArray, List.map_cons, List.map_nil]); first | done | rfl | (simp only [List.length_drop, List.length_take]; rfl)) ?_; (with_reducible refine (value_Take.calls k (⟨#[5, 128, 5, 0]⟩ : ByteArray) 0 t146 t147 t148 t149 t150 t151 _ A6.out).mono ?_); rintro e w39 ⟨rfl, hb⟩; refine ⟨_, rfl, ?_⟩; have n0_ := Aside0.mk (blk_below (g := gb127) (o := .cells #[.int .i64 4, .int .i64 (-1), .int .i64 300, .string (⟨#[104, 105]⟩ : ByteArray)] 23 (0, 0)) (by (with_reducible repeat (first | refine blk_drewN ?_ _ | refine blk_drew ?_ | refine blk_alloc ?_ _)); refine blk_far ?_ NB127_145.out _; (with_reducible repeat (first | refine blk_drewN ?_ _ | refine blk_drew ?_ | refine blk_alloc ?_ _)); refine blk_far ?_ NB127_145.out _; (with_reducible repeat (first | refine blk_drewN ?_ _ | refine blk_drew ?_ | refine blk_alloc ?_ _)); refine blk_far ?_ NB127_145.out _; (with_reducible repeat (first | refine blk_drewN ?_ _ | refine blk_drew ?_ | refine blk_alloc ?_ _)); refine blk_far ?_ NB127_145.out _; (with_reducible repeat (first | refine blk_drewN ?_ _ | refine blk_drew ?_ | refine blk_alloc ?_ _)); exact BK127.out) hb); have n1_ := Aside0.mk (blk_below (g := gb138) (o := .cells #[.int .i64 t132, .int .i64 t133, .int .i64 t134, .string t135] 23 (0, 0)) (by (with_reducible repeat (first | refine blk_drewN ?_ _ | refine blk_drew ?_ | refine blk_alloc ?_ _)); refine blk_far ?_ NB138_145.out _; (with_reducible repeat (first | refine blk_drewN ?_ _ | refine blk_drew ?_ | refine blk_alloc ?_ _)); refine blk_far ?_ NB138_145.out _; (with_reducible repeat (first | refine blk_drewN ?_ _ | refine blk_drew ?_ | refine blk_alloc ?_ _)); refine blk_far ?_ NB138_145.out _; (with_reducible repeat (first | refine blk_drewN ?_ _ | refine blk_drew ?_ | refine blk_alloc ?_ _)); refine blk_far ?_ NB138_145.out _; (with_reducible repeat (first | refine blk_drewN ?_ _ | refine blk_drew ?_ | refine blk_alloc ?_ _)); exact BK138.out) hb); have n2_ := Aside0.mk (blk_below (g := gb145) (o := .cells #[.int .i64 t139, .int .i64 t140, .int .i64 t141, .string t142] 23 (0, 0)) (by (with_reducible repeat (first | refine blk_drewN ?_ _ | refine blk_drew ?_ | refine blk_alloc ?_ _)); refine blk_put (cs := #[.int .i64 t139, .int .i64 t140, .int .i64 t141, .string (⟨#[]⟩ : ByteArray)]) ?_ 3 _ rfl; (with_reducible repeat (first | refine blk_drewN ?_ _ | refine blk_drew ?_ | refine blk_alloc ?_ _)); refine blk_put (cs := #[.int .i64 t139, .int .i64 t140, .int .i64 0, .string (⟨#[]⟩ : ByteArray)]) ?_ 2 _ rfl; (with_reducible repeat (first | refine blk_drewN ?_ _ | refine blk_drew ?_ | refine blk_alloc ?_ _)); refine blk_put (cs := #[.int .i64 t139, .int .i64 0, .int .i64 0, .string (⟨#[]⟩ : ByteArray)]) ?_ 1 _ rfl; (with_reducible repeat (first | refine blk_drewN ?_ _ | refine blk_drew ?_ | refine blk_alloc ?_ _)); refine blk_put (cs := #[.int .i64 0, .int .i64 0, .int .i64 0, .string (⟨#[]⟩ : ByteArray)]) ?_ 0 _ rfl; (with_reducible repeat (first | refine blk_drewN ?_ _ | refine blk_drew ?_ | refine blk_alloc ?_ _)); exact BK145.out) hb); have n3_ := Aside0.mk (below_step (by repeat (first | (with_reducible first | exact HB.out | apply below_alloc | apply pw_below_drewN | apply below_drew1 | refine below_set ?_ GE127.out | refine below_set ?_ GE138.out | refine below_set ?_ GE145.out) | exact HB.out)) hb); clear BK127; clear BK138; clear BK145; clear HB; have BK127 := n0_; have BK138 := n1_; have BK145 := n2_; have HB := n3_; clear n0_ n1_ n2_ n3_; (try clear hb); (try clear hb2); (try clear hk); (try clear hi)) | ((with_reducible refine gate_dst (N := 12) rfl ?_); refine box_event ?hg (N := 12) ?hd (cs := #[.int .i64 0, .int .i64 0, .int .i64 0, .string (⟨#[]⟩ : ByteArray)]) (t := 23) ?hr ?_; (case hd => rfl); (case hg => rfl); (case hr => first | (go_simp; done) | (go_simp; rfl)); intro gb152 hg w40 hbox hb; have n0_ := Aside0.mk (blk_below (g := gb127) (o := .cells #[.int .i64 4, .int .i64 (-1), .int .i64 300, .string (⟨#[104, 105]⟩ : ByteArray)] 23 (0, 0)) (by (with_reducible repeat (first | refine blk_drewN ?_ _ | refine blk_drew ?_ | refine blk_alloc ?_ _)); exact BK127.out) hb); have n1_ := Aside0.mk (blk_below (g := gb138) (o := .cells #[.int .i64 t132, .int .i64 t133, .int .i64 t134, .string t135] 23 (0, 0)) (by (with_reducible repeat (first | refine blk_drewN ?_ _ | refine blk_drew ?_ | refine blk_alloc ?_ _)); exact BK138.out) hb); have n2_ := Aside0.mk (blk_below (g := gb145) (o := .cells #[.int .i64 t139, .int .i64 t140, .int .i64 t141, .string t142] 23 (0, 0)) (by (with_reducible repeat (first | refine blk_drewN ?_ _ | refine blk_drew ?_ | refine blk_alloc ?_ _)); exact BK145.out) hb); have n3_ := Aside0.mk (below_step (by repeat (first | (with_reducible first | exact HB.out | apply below_alloc | apply pw_below_drewN | apply below_drew1 | refine below_set ?_ GE127.out | refine below_set ?_ GE138.out | refine below_set ?_ GE145.out) | exact HB.out)) hb); have n4_ := Aside0.mk (hbox); have n5_ := Aside0.mk ((by rw [hg]; exact (below_size (by repeat (first | (with_reducible first | exact HB.out | apply below_alloc | apply pw_below_drewN | apply below_drew1 | refine below_set ?_ GE127.out | refine below_set ?_ GE138.out | refine below_set ?_ GE145.out) | exact HB.out))) : w.heap.size ≤ gb152)); have n6_ := Aside0.mk ((by rw [hg]; exact (below_size (by repeat (first | (with_reducible first | exact HB.out | apply below_alloc | apply pw_below_drewN | apply below_drew1 | refine below_set ?_ GE127.out | refine below_set ?_ GE138.out | refine below_set ?_ GE145.out) | exact HB.out))) : w.heap.size ≤ gb152)); have n7_ := Aside0.mk ((by rw [hg]; exact Nat.ne_of_lt (blk_lt (g := gb127) (o := .cells #[.int .i64 4, .int .i64 (-1), .int .i64 300, .string (⟨#[104, 105]⟩ : ByteArray)] 23 (0, 0)) (by (with_reducible repeat (first | refine blk_drewN ?_ _ | refine blk_drew ?_ | refine blk_alloc ?_ _)); exact BK127.out)) : gb127 ≠ gb152)); have n8_ := Aside0.mk ((by rw [hg]; exact Nat.ne_of_gt (blk_lt (g := gb127) (o := .cells #[.int .i64 4, .int .i64 (-1), .int .i64 300, .string (⟨#[104, 105]⟩ : ByteArray)] 23 (0, 0)) (by (with_reducible repeat (first | refine blk_drewN ?_ _ | refine blk_drew ?_ | refine blk_alloc ?_ _)); exact BK127.out)) : gb152 ≠ gb127)); have n9_ := Aside0.mk ((by rw [hg]; exact Nat.ne_of_lt (blk_lt (g := gb138) (o := .cells #[.int .i64 t132, .int .i64 t133, .int .i64 t134, .string t135] 23 (0, 0)) (by (with_reducible repeat (first | refine blk_drewN ?_ _ | refine blk_drew ?_ | refine blk_alloc ?_ _)); exact BK138.out)) : gb138 ≠ gb152)); have n10_ := Aside0.mk ((by rw [hg]; exact Nat.ne_of_gt (blk_lt (g := gb138) (o := .cells #[.int .i64 t132, .int .i64 t133, .int .i64 t134, .string t135] 23 (0, 0)) (by (with_reducible repeat (first | refine blk_drewN ?_ _ | refine blk_drew ?_ | refine blk_alloc ?_ _)); exact BK138.out)) : gb152 ≠ gb138)); have n11_ := Aside0.mk ((by rw [hg]; exact Nat.ne_of_lt (blk_lt (g := gb145) (o := .cells #[.int .i64 t139, .int .i64 t140, .int .i64 t141, .string t142] 23 (0, 0)) (by (with_reducible repeat (first | refine blk_drewN ?_ _ | refine blk_drew ?_ | refine blk_alloc ?_ _)); exact BK145.out)) : gb145 ≠ gb152)); have n12_ := Aside0.mk ((by rw [hg]; exact Nat.ne_of_gt (blk_lt (g := gb145) (o := .cells #[.int .i64 t139, .int .i64 t140, .int .i64 t141, .string t142] 23 (0, 0)) (by (with_reducible repeat (first | refine blk_drewN ?_ _ | refine blk_drew ?_ | refine blk_alloc ?_ _)); exact BK145.out)) : gb152 ≠ gb145)); clear BK127; clear BK138; clear BK145; clear HB; have BK127 := n0_; have BK138 := n1_; have BK145 := n2_; have HB := n3_; have BK152 := n4_; have GW152 := n5_; have GE152 := n6_; have NB127_152 := n7_; have NB152_127 := n8_; have NB138_152 := n9_; have NB152_138 := n10_; have NB145_152 := n11_; have NB152_145 := n12_; clear n0_ n1_ n2_ n3_ n4_ n5_ n6_ n7_ n8_ n9_ n10_ n11_ n12_; clear hb hbox hg; have hnb41 := NB152_127.out; have hnc41 := NB127_152.out; have hnb42 := NB152_138.out; have hnc42 := NB138_152.out; have hnb43 := NB152_145.out; have hnc43 := NB145_152.out; have hcz44_0 : w40.cell? ⟨gb152, 0, none⟩ = some (.int .i64 0) := (blk_cell BK152.out 0).trans rfl; have hcz44_1 : w40.cell? ⟨gb152, 1, none⟩ = some (.int .i64 0) := (blk_cell BK152.out 1).trans rfl; have hcz44_2 : w40.cell? ⟨gb152, 2, none⟩ = some (.int .i64 0) := (blk_cell BK152.out 2).trans rfl; have hcz44_3 : w40.cell? ⟨gb152, 3, none⟩ = some (.string (⟨#[]⟩ : ByteArray)) := (blk_cell BK152.out 3).trans rfl; have hfz44_0 := blk_frozen BK152.out 0; have hfz44_1 := blk_frozen BK152.out 1; have hfz44_2 := blk_frozen BK152.out 2; have hfz44_3 := blk_frozen BK152.out 3) | ((with_reducible refine gate_callee (f := 11) rfl ?_); refine goesL_ (some 50) rfl rfl Try.func11 (by kernel_rfl) rfl #[.int .i64 2] rfl (by (try simp only [List.map_toArray, List.map_cons, List.map_nil]); first | done | rfl | (simp only [List.length_drop, List.length_take]; rfl)) ?_; (with_reducible refine (value_Say.calls 2 t153 true _ A7.out).mono ?_); rintro e w45 ⟨rfl, hb⟩; refine ⟨_, rfl, ?_⟩; have n0_ := Aside0.mk (blk_below (g := gb127) (o := .cells #[.int .i64 4, .int .i64 (-1), .int .i64 300, .string (⟨#[104, 105]⟩ : ByteArray)] 23 (0, 0)) (by (with_reducible repeat (first | refine blk_drewN ?_ _ | refine blk_drew ?_ | refine blk_alloc ?_ _)); refine blk_far ?_ NB127_152.out _; (with_reducible repeat (first | refine blk_drewN ?_ _ | refine blk_drew ?_ | refine blk_alloc ?_ _)); refine blk_far ?_ NB127_152.out _; (with_reducible repeat (first | refine blk_drewN ?_ _ | refine blk_drew ?_ | refine blk_alloc ?_ _)); refine blk_far ?_ NB127_152.out _; (with_reducible repeat (first | refine blk_drewN ?_ _ | refine blk_drew ?_ | refine blk_alloc ?_ _)); refine blk_far ?_ NB127_152.out _; (with_reducible repeat (first | refine blk_drewN ?_ _ | refine blk_drew ?_ | refine blk_alloc ?_ _)); exact BK127.out) hb); have n1_ := Aside0.mk (blk_below (g := gb138) (o := .cells #[.int .i64 t132, .int .i64 t133, .int .i64 t134, .string t135] 23 (0, 0)) (by (with_reducible repeat (first | refine blk_drewN ?_ _ | refine blk_drew ?_ | refine blk_alloc ?_ _)); refine blk_far ?_ NB138_152.out _; (with_reducible repeat (first | refine blk_drewN ?_ _ | refine blk_drew ?_ | refine blk_alloc ?_ _)); refine blk_far ?_ NB138_152.out _; (with_reducible repeat (first | refine blk_drewN ?_ _ | refine blk_drew ?_ | refine blk_alloc ?_ _)); refine blk_far ?_ NB138_152.out _; (with_reducible repeat (first | refine blk_drewN ?_ _ | refine blk_drew ?_ | refine blk_alloc ?_ _)); refine blk_far ?_ NB138_152.out _; (with_reducible repeat (first | refine blk_drewN ?_ _ | refine blk_drew ?_ | refine blk_alloc ?_ _)); exact BK138.out) hb); have n2_ := Aside0.mk (blk_below (g := gb145) (o := .cells #[.int .i64 t139, .int .i64 t140, .int .i64 t141, .string t142] 23 (0, 0)) (by (with_reducible repeat (first | refine blk_drewN ?_ _ | refine blk_drew ?_ | refine blk_alloc ?_ _)); refine blk_far ?_ NB145_152.out _; (with_reducible repeat (first | refine blk_drewN ?_ _ | refine blk_drew ?_ | refine blk_alloc ?_ _)); refine blk_far ?_ NB145_152.out _; (with_reducible repeat (first | refine blk_drewN ?_ _ | refine blk_drew ?_ | refine blk_alloc ?_ _)); refine blk_far ?_ NB145_152.out _; (with_reducible repeat (first | refine blk_drewN ?_ _ | refine blk_drew ?_ | refine blk_alloc ?_ _)); refine blk_far ?_ NB145_152.out _; (with_reducible repeat (first | refine blk_drewN ?_ _ | refine blk_drew ?_ | refine blk_alloc ?_ _)); exact BK145.out) hb); have n3_ := Aside0.mk (blk_below (g := gb152) (o := .cells #[.int .i64 t146, .int .i64 t147, .int .i64 t148, .string t149] 23 (0, 0)) (by (with_reducible repeat (first | refine blk_drewN ?_ _ | refine blk_drew ?_ | refine blk_alloc ?_ _)); refine blk_put (cs := #[.int .i64 t146, .int .i64 t147, .int .i64 t148, .string (⟨#[]⟩ : ByteArray)]) ?_ 3 _ rfl; (with_reducible repeat (first | refine blk_drewN ?_ _ | refine blk_drew ?_ | refine blk_alloc ?_ _)); refine blk_put (cs := #[.int .i64 t146, .int .i64 t147, .int .i64 0, .string (⟨#[]⟩ : ByteArray)]) ?_ 2 _ rfl; (with_reducible repeat (first | refine blk_drewN ?_ _ | refine blk_drew ?_ | refine blk_alloc ?_ _)); refine blk_put (cs := #[.int .i64 t146, .int .i64 0, .int .i64 0, .string (⟨#[]⟩ : ByteArray)]) ?_ 1 _ rfl; (with_reducible repeat (first | refine blk_drewN ?_ _ | refine blk_drew ?_ | refine blk_alloc ?_ _)); refine blk_put (cs := #[.int .i64 0, .int .i64 0, .int .i64 0, .string (⟨#[]⟩ : ByteArray)]) ?_ 0 _ rfl; (with_reducible repeat (first | refine blk_drewN ?_ _ | refine blk_drew ?_ | refine blk_alloc ?_ _)); exact BK152.out) hb); have n4_ := Aside0.mk (below_step (by repeat (first | (with_reducible first | exact HB.out | apply below_alloc | apply pw_below_drewN | apply below_drew1 | refine below_set ?_ GE127.out | refine below_set ?_ GE138.out | refine below_set ?_ GE145.out | refine below_set ?_ GE152.out) | exact HB.out)) hb); clear BK127; clear BK138; clear BK145; clear BK152; clear HB; have BK127 := n0_; have BK138 := n1_; have BK145 := n2_; have BK152 := n3_; have HB := n4_; clear n0_ n1_ n2_ n3_ n4_; (try clear hb); (try clear hb2); (try clear hk); (try clear hi)) | ((with_reducible refine gate_callee (f := 13) rfl ?_); refine goesL_ (some 54) rfl rfl Try.func13 (by kernel_rfl) rfl #[.string (⟨#[111, 110, 108, 105, 110, 101]⟩ : ByteArray)] rfl (by (try simp only [List.map_toArray, List.map_cons, List.map_nil]); first | done | rfl | (simp only [List.length_drop, List.length_take]; rfl)) ?_; (with_reducible refine (value_Hear.calls (⟨#[111, 110, 108, 105, 110, 101]⟩ : ByteArray) t155 true _ A8.out).mono ?_); rintro e w46 ⟨rfl, hb⟩; refine ⟨_, rfl, ?_⟩; have n0_ := Aside0.mk (blk_below (g := gb127) (o := .cells #[.int .i64 4, .int .i64 (-1), .int .i64 300, .string (⟨#[104, 105]⟩ : ByteArray)] 23 (0, 0)) (by (with_reducible repeat (first | refine blk_drewN ?_ _ | refine blk_drew ?_ | refine blk_alloc ?_ _)); exact BK127.out) hb); have n1_ := Aside0.mk (blk_below (g := gb138) (o := .cells #[.int .i64 t132, .int .i64 t133, .int .i64 t134, .string t135] 23 (0, 0)) (by (with_reducible repeat (first | refine blk_drewN ?_ _ | refine blk_drew ?_ | refine blk_alloc ?_ _)); exact BK138.out) hb); have n2_ := Aside0.mk (blk_below (g := gb145) (o := .cells #[.int .i64 t139, .int .i64 t140, .int .i64 t141, .string t142] 23 (0, 0)) (by (with_reducible repeat (first | refine blk_drewN ?_ _ | refine blk_drew ?_ | refine blk_alloc ?_ _)); exact BK145.out) hb); have n3_ := Aside0.mk (blk_below (g := gb152) (o := .cells #[.int .i64 t146, .int .i64 t147, .int .i64 t148, .string t149] 23 (0, 0)) (by (with_reducible repeat (first | refine blk_drewN ?_ _ | refine blk_drew ?_ | refine blk_alloc ?_ _)); exact BK152.out) hb); have n4_ := Aside0.mk (below_step (by repeat (first | (with_reducible first | exact HB.out | apply below_alloc | apply pw_below_drewN | apply below_drew1 | refine below_set ?_ GE127.out | refine below_set ?_ GE138.out | refine below_set ?_ GE145.out | refine below_set ?_ GE152.out) | exact HB.out)) hb); clear BK127; clear BK138; clear BK145; clear BK152; clear HB; have BK127 := n0_; have BK138 := n1_; have BK145 := n2_; have BK152 := n3_; have HB := n4_; clear n0_ n1_ n2_ n3_ n4_; (try clear hb); (try clear hb2); (try clear hk); (try clear hi)) | ((with_reducible refine gate_callee (f := 13) rfl ?_); refine goesL_ (some 58) rfl rfl Try.func13 (by kernel_rfl) rfl #[.string (⟨#[111, 110]⟩ : ByteArray)] rfl (by (try simp only [List.map_toArray, List.map_cons, List.map_nil]); first | done | rfl | (simp only [List.length_drop, List.length_take]; rfl)) ?_; (with_reducible refine (value_Hear.calls (⟨#[111, 110]⟩ : ByteArray) t157 false _ A9.out).mono ?_); rintro e w47 ⟨rfl, hb⟩; refine ⟨_, rfl, ?_⟩; have n0_ := Aside0.mk (blk_below (g := gb127) (o := .cells #[.int .i64 4, .int .i64 (-1), .int .i64 300, .string (⟨#[104, 105]⟩ : ByteArray)] 23 (0, 0)) (by (with_reducible repeat (first | refine blk_drewN ?_ _ | refine blk_drew ?_ | refine blk_alloc ?_ _)); exact BK127.out) hb); have n1_ := Aside0.mk (blk_below (g := gb138) (o := .cells #[.int .i64 t132, .int .i64 t133, .int .i64 t134, .string t135] 23 (0, 0)) (by (with_reducible repeat (first | refine blk_drewN ?_ _ | refine blk_drew ?_ | refine blk_alloc ?_ _)); exact BK138.out) hb); have n2_ := Aside0.mk (blk_below (g := gb145) (o := .cells #[.int .i64 t139, .int .i64 t140, .int .i64 t141, .string t142] 23 (0, 0)) (by (with_reducible repeat (first | refine blk_drewN ?_ _ | refine blk_drew ?_ | refine blk_alloc ?_ _)); exact BK145.out) hb); have n3_ := Aside0.mk (blk_below (g := gb152) (o := .cells #[.int .i64 t146, .int .i64 t147, .int .i64 t148, .string t149] 23 (0, 0)) (by (with_reducible repeat (first | refine blk_drewN ?_ _ | refine blk_drew ?_ | refine blk_alloc ?_ _)); exact BK152.out) hb); have n4_ := Aside0.mk (below_step (by repeat (first | (with_reducible first | exact HB.out | apply below_alloc | apply pw_below_drewN | apply below_drew1 | refine below_set ?_ GE127.out | refine below_set ?_ GE138.out | refine below_set ?_ GE145.out | refine below_set ?_ GE152.out) | exact HB.out)) hb); clear BK127; clear BK138; clear BK145; clear BK152; clear HB; have BK127 := n0_; have BK138 := n1_; have BK145 := n2_; have BK152 := n3_; have HB := n4_; clear n0_ n1_ n2_ n3_ n4_; (try clear hb); (try clear hb2); (try clear hk); (try clear hi); have hcz48_0 : w47.cell? ⟨gb138, 0, none⟩ = some (.int .i64 t132) := (blk_cell BK138.out 0).trans rfl; have hcz48_1 : w47.cell? ⟨gb138, 1, none⟩ = some (.int .i64 t133) := (blk_cell BK138.out 1).trans rfl; have hcz48_2 : w47.cell? ⟨gb138, 2, none⟩ = some (.int .i64 t134) := (blk_cell BK138.out 2).trans rfl; have hcz48_3 : w47.cell? ⟨gb138, 3, none⟩ = some (.string t135) := (blk_cell BK138.out 3).trans rfl; have hfz48_0 := blk_frozen BK138.out 0; have hfz48_1 := blk_frozen BK138.out 1; have hfz48_2 := blk_frozen BK138.out 2; have hfz48_3 := blk_frozen BK138.out 3; have hcz49_0 : w47.cell? ⟨gb127, 0, none⟩ = some (.int .i64 4) := (blk_cell BK127.out 0).trans rfl; have hcz49_1 : w47.cell? ⟨gb127, 1, none⟩ = some (.int .i64 (-1)) := (blk_cell BK127.out 1).trans rfl; have hcz49_2 : w47.cell? ⟨gb127, 2, none⟩ = some (.int .i64 300) := (blk_cell BK127.out 2).trans rfl; have hcz49_3 : w47.cell? ⟨gb127, 3, none⟩ = some (.string (⟨#[104, 105]⟩ : ByteArray)) := (blk_cell BK127.out 3).trans rfl; have hfz49_0 := blk_frozen BK127.out 0; have hfz49_1 := blk_frozen BK127.out 1; have hfz49_2 := blk_frozen BK127.out 2; have hfz49_3 := blk_frozen BK127.out 3) | (go_at_call 15; (with_reducible refine (value_May.calls 4 (-1) 300 (⟨#[104, 105]⟩ : ByteArray) true _ A23.out).mono ?_); rintro e w50 ⟨rfl, hb⟩; have n0_ := Aside0.mk (blk_below (g := gb127) (o := .cells #[.int .i64 4, .int .i64 (-1), .int .i64 300, .string (⟨#[104, 105]⟩ : ByteArray)] 23 (0, 0)) (by (with_reducible repeat (first | refine blk_drewN ?_ _ | refine blk_drew ?_ | refine blk_alloc ?_ _)); exact BK127.out) hb); have n1_ := Aside0.mk (blk_below (g := gb138) (o := .cells #[.int .i64 t132, .int .i64 t133, .int .i64 t134, .string t135] 23 (0, 0)) (by (with_reducible repeat (first | refine blk_drewN ?_ _ | refine blk_drew ?_ | refine blk_alloc ?_ _)); exact BK138.out) hb); have n2_ := Aside0.mk (blk_below (g := gb145) (o := .cells #[.int .i64 t139, .int .i64 t140, .int .i64 t141, .string t142] 23 (0, 0)) (by (with_reducible repeat (first | refine blk_drewN ?_ _ | refine blk_drew ?_ | refine blk_alloc ?_ _)); exact BK145.out) hb); have n3_ := Aside0.mk (blk_below (g := gb152) (o := .cells #[.int .i64 t146, .int .i64 t147, .int .i64 t148, .string t149] 23 (0, 0)) (by (with_reducible repeat (first | refine blk_drewN ?_ _ | refine blk_drew ?_ | refine blk_alloc ?_ _)); exact BK152.out) hb); have n4_ := Aside0.mk (below_step (by repeat (first | (with_reducible first | exact HB.out | apply below_alloc | apply pw_below_drewN | apply below_drew1 | refine below_set ?_ GE127.out | refine below_set ?_ GE138.out | refine below_set ?_ GE145.out | refine below_set ?_ GE152.out) | exact HB.out)) hb); clear BK127; clear BK138; clear BK145; clear BK152; clear HB; have BK127 := n0_; have BK138 := n1_; have BK145 := n2_; have BK152 := n3_; have HB := n4_; clear n0_ n1_ n2_ n3_ n4_; (try clear hb); (try clear hb2); (try clear hk); (try clear hi)) | (go_at_call 15; (with_reducible refine (value_May.calls 1 0 0 (⟨#[10]⟩ : ByteArray) t160 _ A25.out).mono ?_); rintro e w51 ⟨rfl, hb⟩; have n0_ := Aside0.mk (blk_below (g := gb127) (o := .cells #[.int .i64 4, .int .i64 (-1), .int .i64 300, .string (⟨#[104, 105]⟩ : ByteArray)] 23 (0, 0)) (by (with_reducible repeat (first | refine blk_drewN ?_ _ | refine blk_drew ?_ | refine blk_alloc ?_ _)); exact BK127.out) hb); have n1_ := Aside0.mk (blk_below (g := gb138) (o := .cells #[.int .i64 t132, .int .i64 t133, .int .i64 t134, .string t135] 23 (0, 0)) (by (with_reducible repeat (first | refine blk_drewN ?_ _ | refine blk_drew ?_ | refine blk_alloc ?_ _)); exact BK138.out) hb); have n2_ := Aside0.mk (blk_below (g := gb145) (o := .cells #[.int .i64 t139, .int .i64 t140, .int .i64 t141, .string t142] 23 (0, 0)) (by (with_reducible repeat (first | refine blk_drewN ?_ _ | refine blk_drew ?_ | refine blk_alloc ?_ _)); exact BK145.out) hb); have n3_ := Aside0.mk (blk_below (g := gb152) (o := .cells #[.int .i64 t146, .int .i64 t147, .int .i64 t148, .string t149] 23 (0, 0)) (by (with_reducible repeat (first | refine blk_drewN ?_ _ | refine blk_drew ?_ | refine blk_alloc ?_ _)); exact BK152.out) hb); have n4_ := Aside0.mk (below_step (by repeat (first | (with_reducible first | exact HB.out | apply below_alloc | apply pw_below_drewN | apply below_drew1 | refine below_set ?_ GE127.out | refine below_set ?_ GE138.out | refine below_set ?_ GE145.out | refine below_set ?_ GE152.out) | exact HB.out)) hb); clear BK127; clear BK138; clear BK145; clear BK152; clear HB; have BK127 := n0_; have BK138 := n1_; have BK145 := n2_; have BK152 := n3_; have HB := n4_; clear n0_ n1_ n2_ n3_ n4_; (try clear hb); (try clear hb2); (try clear hk); (try clear hi)))
                                go_ret
                                exact ⟨by first | rfl | (simp [errW_none, errW_some] <;> rfl) | (simp [*, errW_none, errW_some] <;> rfl), by repeat (first | (with_reducible first | exact HB.out | apply below_alloc | apply pw_below_drewN | apply below_drew1 | refine below_set ?_ GE127.out | refine below_set ?_ GE138.out | refine below_set ?_ GE145.out | refine below_set ?_ GE152.out) | exact HB.out)⟩
                              · replace c24 := Bool.eq_false_iff.mpr c24
                                subst c24
                                have H1 : (some false) = some r := by rw [if_neg (show ¬ (false = true) by decide)] at H; exact H
                                clear H
                                have H := H1
                                clear H1
                                exact absurd ((Option.some.inj H).trans HT.out) (by simp)
                          · replace c21 := Bool.eq_false_iff.mpr c21
                            subst c21
                            have H1 : (some false) = some r := by rw [if_neg (show ¬ (false = true) by decide)] at H; exact H
                            clear H
                            have H := H1
                            clear H1
                            exact absurd ((Option.some.inj H).trans HT.out) (by simp)
                        · rw [if_neg c20] at H
                          have c20b0 : (t155 == 4) = false := beq_eq_false_iff_ne.mpr c20
                          have c20b1 : (t155 != 4) = true := bne_iff_ne.mpr c20
                          exact absurd ((Option.some.inj H).trans HT.out) (by simp)
                      · replace c19 := Bool.eq_false_iff.mpr c19
                        subst c19
                        have H1 : (some false) = some r := by rw [if_neg (show ¬ (false = true) by decide)] at H; exact H
                        clear H
                        have H := H1
                        clear H1
                        exact absurd ((Option.some.inj H).trans HT.out) (by simp)
                    · rw [if_neg c18] at H
                      have c18b0 : (t153.toList == ([97, 119, 97, 121] : List UInt8)) = false := beq_eq_false_iff_ne.mpr c18
                      have c18b1 : (t153.toList != ([97, 119, 97, 121] : List UInt8)) = true := bne_iff_ne.mpr c18
                      exact absurd ((Option.some.inj H).trans HT.out) (by simp)
                  · rw [if_neg c17] at H
                    have c17b0 : (t151 == 3) = false := beq_eq_false_iff_ne.mpr c17
                    have c17b1 : (t151 != 3) = true := bne_iff_ne.mpr c17
                    exact absurd ((Option.some.inj H).trans HT.out) (by simp)
                · rw [if_neg c16] at H
                  have c16b0 : (t144 == 2) = false := beq_eq_false_iff_ne.mpr c16
                  have c16b1 : (t144 != 2) = true := bne_iff_ne.mpr c16
                  exact absurd ((Option.some.inj H).trans HT.out) (by simp)
              · rw [if_neg c15] at H
                have c15b0 : (t137 == 0) = false := beq_eq_false_iff_ne.mpr c15
                have c15b1 : (t137 != 0) = true := bne_iff_ne.mpr c15
                exact absurd ((Option.some.inj H).trans HT.out) (by simp)
            · rw [if_neg c14] at H
              have c14b0 : (t136 == 8) = false := beq_eq_false_iff_ne.mpr c14
              have c14b1 : (t136 != 8) = true := bne_iff_ne.mpr c14
              exact absurd ((Option.some.inj H).trans HT.out) (by simp)
          · rw [if_neg c13] at H
            have c13b0 : (t132 == 4 && (t133 == (-1) && (t134 == 300 && (t135.toList == ([104, 105] : List UInt8))))) = false := by simpa using c13
            (try (have c13b1 : decide (t132 = 4 && (t133 == (-1) && (t134 == 300 && (t135.toList == ([104, 105] : List UInt8))))) = false := by simpa using c13))
            (try (have c13b2 : (t132 == 4 && (t133 == (-1) && (t134 == 300 && (t135.toList == ([104, 105] : List UInt8))))) = false := by simpa using c13))
            (try (have c13b3 : ¬ (t132 = 4 && (t133 == (-1) && (t134 == 300 && (t135.toList == ([104, 105] : List UInt8))))) := by simpa using c13))
            clear c13
            exact absurd ((Option.some.inj H).trans HT.out) (by simp)
      · replace c11 := Bool.eq_false_iff.mpr c11
        subst c11
        have H1 : (some false) = some r := by rw [if_neg (show ¬ (false = true) by decide)] at H; exact H
        clear H
        have H := H1
        clear H1
        exact absurd ((Option.some.inj H).trans HT.out) (by simp)
    · rw [if_neg c10] at H
      have c10b0 : (t128.toList == ([4, 127, 172, 2, 2, 104, 105] : List UInt8)) = false := beq_eq_false_iff_ne.mpr c10
      have c10b1 : (t128.toList != ([4, 127, 172, 2, 2, 104, 105] : List UInt8)) = true := bne_iff_ne.mpr c10
      exact absurd ((Option.some.inj H).trans HT.out) (by simp)
  · rw [if_neg c3] at H
    exact absurd H (by simp)
theorem rollcalllaw04_live.calls (k : Nat) (r : Bool) (w : World) (h : rollcalllaw04_live.f k = some r) :
    Calls Try.prog 8 #[] w fun e w' => e = .returned (.bool r) ∧ Below w.heap.size w w' := by
  have h1 : rollcalllaw04_live.f 100 = some true := by kernel_rfl
  have h2 := at_rounds rollcalllaw04_live.mono (Nat.le_max_left k 100) h
  have h3 := at_rounds rollcalllaw04_live.mono (Nat.le_max_right k 100) h1
  exact rollcalllaw04_live.callsT k r (Option.some.inj (h2.symm.trans h3)) w h

/-! ### rollcallref04_May: function 16 -/
mutual
def rollcallref04_May.j0 : Nat → Bool → Int → Int → Int → ByteArray → Option (Bool)
  | 0, _, _, _, _, _ => none
  | k + 1, x37, x162000, x162001, x162002, x162003 => if x37 = true then (some false) else (rollcallref04_May.l0 k 0 x162000 x162001 x162002 x162003)
def rollcallref04_May.l0 : Nat → Int → Int → Int → Int → ByteArray → Option (Bool)
  | 0, _, _, _, _, _ => none
  | k + 1, x3, x162000, x162001, x162002, x162003 => if x3 < (x162003.size : Int) then (if 0 ≤ x3 then (if (bt x162003 x3) < 32 then (some false) else (if (bt x162003 x3) > 126 then (some false) else (rollcallref04_May.l0 k (wrap64 (x3 + 1)) x162000 x162001 x162002 x162003))) else (none)) else (some true)
end
def rollcallref04_May.f (k : Nat) (a0_0 : Int) (a0_1 : Int) (a0_2 : Int) (a0_3 : ByteArray) : Option (Bool) := if a0_0 < 1 then (rollcallref04_May.j0 k true a0_0 a0_1 a0_2 a0_3) else (if a0_0 > 4 then (rollcallref04_May.j0 k true a0_0 a0_1 a0_2 a0_3) else (if a0_1 < (-128) then (rollcallref04_May.j0 k true a0_0 a0_1 a0_2 a0_3) else (if a0_1 > 127 then (rollcallref04_May.j0 k true a0_0 a0_1 a0_2 a0_3) else (if a0_2 < 0 then (rollcallref04_May.j0 k true a0_0 a0_1 a0_2 a0_3) else (if a0_2 > 1099511627776 then (rollcallref04_May.j0 k true a0_0 a0_1 a0_2 a0_3) else (rollcallref04_May.j0 k (decide ((a0_3.size : Int) > 32)) a0_0 a0_1 a0_2 a0_3))))))
theorem rollcallref04_May.mono_l : ∀ k, (∀ y0 y1 y2 y3 y4, LeO (rollcallref04_May.j0 k y0 y1 y2 y3 y4) (rollcallref04_May.j0 (k + 1) y0 y1 y2 y3 y4)) ∧ (∀ y0 y1 y2 y3 y4, LeO (rollcallref04_May.l0 k y0 y1 y2 y3 y4) (rollcallref04_May.l0 (k + 1) y0 y1 y2 y3 y4))
  | 0 => ⟨fun _ _ _ _ _ r h => by simp [rollcallref04_May.j0] at h, fun _ _ _ _ _ r h => by simp [rollcallref04_May.l0] at h⟩
  | k + 1 => by
    obtain ⟨ih0, ih1⟩ := rollcallref04_May.mono_l k
    refine ⟨?_, ?_⟩
    · intro y0 y1 y2 y3 y4
      unfold rollcallref04_May.j0
      repeat' first
      | (with_reducible exact ih0 _ _ _ _ _)
      | (with_reducible exact ih1 _ _ _ _ _)
      | (with_reducible exact LeO.refl _)
      | (with_reducible exact LeO.none _)
      | (with_reducible refine LeO.ite ?_ ?_)
      | (with_reducible refine LeO.bind ?_ (fun _ => ?_))
      | exact ih0 _ _ _ _ _
      | exact ih1 _ _ _ _ _
      | exact LeO.none _
      | refine LeO.ite ?_ ?_
      | refine LeO.bind ?_ (fun _ => ?_)
    · intro y0 y1 y2 y3 y4
      unfold rollcallref04_May.l0
      repeat' first
      | (with_reducible exact ih0 _ _ _ _ _)
      | (with_reducible exact ih1 _ _ _ _ _)
      | (with_reducible exact LeO.refl _)
      | (with_reducible exact LeO.none _)
      | (with_reducible refine LeO.ite ?_ ?_)
      | (with_reducible refine LeO.bind ?_ (fun _ => ?_))
      | exact ih0 _ _ _ _ _
      | exact ih1 _ _ _ _ _
      | exact LeO.none _
      | refine LeO.ite ?_ ?_
      | refine LeO.bind ?_ (fun _ => ?_)
theorem rollcallref04_May.mono : ∀ a0 a1 a2 a3 k, LeO (rollcallref04_May.f k a0 a1 a2 a3) (rollcallref04_May.f (k + 1) a0 a1 a2 a3) := by
  intro a0 a1 a2 a3 k
  obtain ⟨ih0, ih1⟩ := rollcallref04_May.mono_l k
  unfold rollcallref04_May.f
  repeat' first
      | (with_reducible exact ih0 _ _ _ _ _)
      | (with_reducible exact ih1 _ _ _ _ _)
      | (with_reducible exact LeO.refl _)
      | (with_reducible exact LeO.none _)
      | (with_reducible refine LeO.ite ?_ ?_)
      | (with_reducible refine LeO.bind ?_ (fun _ => ?_))
      | exact ih0 _ _ _ _ _
      | exact ih1 _ _ _ _ _
      | exact LeO.none _
      | refine LeO.ite ?_ ?_
      | refine LeO.bind ?_ (fun _ => ?_)
set_option maxHeartbeats 8000000 in
set_option maxRecDepth 100000 in
theorem rollcallref04_May.calls (k : Nat) (a0_0 : Int) (a0_1 : Int) (a0_2 : Int) (a0_3 : ByteArray) (r : Bool) (w : World) (h : rollcallref04_May.f k a0_0 a0_1 a0_2 a0_3 = some r) :
    Calls Try.prog 16 #[.agg #[.int .i64 a0_0, .int .i64 a0_1, .int .i64 a0_2, .string a0_3]] w fun e w' => e = .returned (.bool r) ∧ Below w.heap.size w w' := by
  have hu23 := Try.underlying23
  have HB := Aside0.mk (Below.refl w.heap.size w)
  have H : (if a0_0 < 1 then (rollcallref04_May.j0 k true a0_0 a0_1 a0_2 a0_3) else (if a0_0 > 4 then (rollcallref04_May.j0 k true a0_0 a0_1 a0_2 a0_3) else (if a0_1 < (-128) then (rollcallref04_May.j0 k true a0_0 a0_1 a0_2 a0_3) else (if a0_1 > 127 then (rollcallref04_May.j0 k true a0_0 a0_1 a0_2 a0_3) else (if a0_2 < 0 then (rollcallref04_May.j0 k true a0_0 a0_1 a0_2 a0_3) else (if a0_2 > 1099511627776 then (rollcallref04_May.j0 k true a0_0 a0_1 a0_2 a0_3) else (rollcallref04_May.j0 k (decide ((a0_3.size : Int) > 32)) a0_0 a0_1 a0_2 a0_3))))))) = some r := h
  clear h
  have HC2 := Aside0.mk H
  clear H
  go_enter Try.func16, Try.ntmps16
  go_upto_region 1 with (first | ((with_reducible refine gate_dst (N := 1) rfl ?_); (try (refine gate_guard (by rfl) ?_; dsimp only)); refine box_event ?hg (N := 1) ?hd (cs := #[.int .i64 a0_0, .int .i64 a0_1, .int .i64 a0_2, .string a0_3]) (t := 23) ?hr ?_; (case hd => rfl); (case hg => rfl); (case hr => first | (go_simp; done) | (go_simp; rfl)); intro gb161 hg w3 hbox hb; have n0_ := Aside0.mk (below_step (by repeat (first | (with_reducible first | exact HB.out | apply below_alloc | apply pw_below_drewN | apply below_drew1) | exact HB.out)) hb); have n1_ := Aside0.mk (hbox); have n2_ := Aside0.mk ((by rw [hg]; exact (below_size (by repeat (first | (with_reducible first | exact HB.out | apply below_alloc | apply pw_below_drewN | apply below_drew1) | exact HB.out))) : w.heap.size ≤ gb161)); have n3_ := Aside0.mk ((by rw [hg]; exact (below_size (by repeat (first | (with_reducible first | exact HB.out | apply below_alloc | apply pw_below_drewN | apply below_drew1) | exact HB.out))) : w.heap.size ≤ gb161)); clear HB; have HB := n0_; have BK161 := n1_; have GW161 := n2_; have GE161 := n3_; clear n0_ n1_ n2_ n3_; clear hb hbox hg))
  (try simp only [Act.put, List.setIfInBounds_toArray, List.set_cons_zero, List.set_cons_succ])
  go_cut [37] (fun v37 wc => ∃ (kq : Nat) (x37_1 : Bool), v37 = .bool x37_1 ∧ Aside0 (rollcallref04_May.j0 kq x37_1 a0_0 a0_1 a0_2 a0_3 = some r) ∧ Aside0 (kq ≤ k) ∧ Aside0 (wc.heap[gb161]? = some (.cells #[.int .i64 a0_0, .int .i64 a0_1, .int .i64 a0_2, .string a0_3] 23 (0, 0))) ∧ Aside0 (Below w.heap.size w wc))
  case first =>
    have H := HC2.out
    clear HC2
    by_cases c4 : a0_0 < 1
    · rw [if_pos c4] at H
      have c4b0 : decide (a0_0 < 1) = true := decide_eq_true c4
      clear c4
      (first | rw [c4b0] | (simp only [i64_w, i32_w]; rw [c4b0]) | skip)
      have H' := Aside0.mk H
      clear H
      have hcz5_0 : w3.cell? ⟨gb161, 0, none⟩ = some (.int .i64 a0_0) := (blk_cell BK161.out 0).trans rfl
      have hcz5_1 : w3.cell? ⟨gb161, 1, none⟩ = some (.int .i64 a0_1) := (blk_cell BK161.out 1).trans rfl
      have hcz5_2 : w3.cell? ⟨gb161, 2, none⟩ = some (.int .i64 a0_2) := (blk_cell BK161.out 2).trans rfl
      have hcz5_3 : w3.cell? ⟨gb161, 3, none⟩ = some (.string a0_3) := (blk_cell BK161.out 3).trans rfl
      have hfz5_0 := blk_frozen BK161.out 0
      have hfz5_1 := blk_frozen BK161.out 1
      have hfz5_2 := blk_frozen BK161.out 2
      have hfz5_3 := blk_frozen BK161.out 3
      go_wp2
      go_meet
      case rel => exact ⟨_, (true), (by first | rfl | (simp; done) | (simp [*]; done)), H', ⟨by first | omega | exact Nat.le_refl _⟩, ⟨by (with_reducible repeat (first | refine blk_drewN ?_ _ | refine blk_drew ?_ | refine blk_alloc ?_ _)); exact BK161.out⟩, ⟨by repeat (first | (with_reducible first | exact HB.out | apply below_alloc | apply pw_below_drewN | apply below_drew1 | refine below_set ?_ GE161.out) | exact HB.out)⟩⟩
    · rw [if_neg c4] at H
      have c4b0 : decide (a0_0 < 1) = false := decide_eq_false c4
      clear c4
      (first | rw [c4b0] | (simp only [i64_w, i32_w]; rw [c4b0]) | skip)
      by_cases c6 : a0_0 > 4
      · rw [if_pos c6] at H
        have c6b0 : decide (4 < a0_0) = true := decide_eq_true c6
        clear c6
        have H' := Aside0.mk H
        clear H
        have hcz7_0 : w3.cell? ⟨gb161, 0, none⟩ = some (.int .i64 a0_0) := (blk_cell BK161.out 0).trans rfl
        have hcz7_1 : w3.cell? ⟨gb161, 1, none⟩ = some (.int .i64 a0_1) := (blk_cell BK161.out 1).trans rfl
        have hcz7_2 : w3.cell? ⟨gb161, 2, none⟩ = some (.int .i64 a0_2) := (blk_cell BK161.out 2).trans rfl
        have hcz7_3 : w3.cell? ⟨gb161, 3, none⟩ = some (.string a0_3) := (blk_cell BK161.out 3).trans rfl
        have hfz7_0 := blk_frozen BK161.out 0
        have hfz7_1 := blk_frozen BK161.out 1
        have hfz7_2 := blk_frozen BK161.out 2
        have hfz7_3 := blk_frozen BK161.out 3
        go_wp2
        go_meet
        case rel => exact ⟨_, (true), (by first | rfl | (simp; done) | (simp [*]; done)), H', ⟨by first | omega | exact Nat.le_refl _⟩, ⟨by (with_reducible repeat (first | refine blk_drewN ?_ _ | refine blk_drew ?_ | refine blk_alloc ?_ _)); exact BK161.out⟩, ⟨by repeat (first | (with_reducible first | exact HB.out | apply below_alloc | apply pw_below_drewN | apply below_drew1 | refine below_set ?_ GE161.out) | exact HB.out)⟩⟩
      · rw [if_neg c6] at H
        have c6b0 : decide (4 < a0_0) = false := decide_eq_false c6
        clear c6
        by_cases c8 : a0_1 < (-128)
        · rw [if_pos c8] at H
          have c8b0 : decide (a0_1 < (-128)) = true := decide_eq_true c8
          clear c8
          have H' := Aside0.mk H
          clear H
          have hcz9_0 : w3.cell? ⟨gb161, 0, none⟩ = some (.int .i64 a0_0) := (blk_cell BK161.out 0).trans rfl
          have hcz9_1 : w3.cell? ⟨gb161, 1, none⟩ = some (.int .i64 a0_1) := (blk_cell BK161.out 1).trans rfl
          have hcz9_2 : w3.cell? ⟨gb161, 2, none⟩ = some (.int .i64 a0_2) := (blk_cell BK161.out 2).trans rfl
          have hcz9_3 : w3.cell? ⟨gb161, 3, none⟩ = some (.string a0_3) := (blk_cell BK161.out 3).trans rfl
          have hfz9_0 := blk_frozen BK161.out 0
          have hfz9_1 := blk_frozen BK161.out 1
          have hfz9_2 := blk_frozen BK161.out 2
          have hfz9_3 := blk_frozen BK161.out 3
          go_wp2
          go_meet
          case rel => exact ⟨_, (true), (by first | rfl | (simp; done) | (simp [*]; done)), H', ⟨by first | omega | exact Nat.le_refl _⟩, ⟨by (with_reducible repeat (first | refine blk_drewN ?_ _ | refine blk_drew ?_ | refine blk_alloc ?_ _)); exact BK161.out⟩, ⟨by repeat (first | (with_reducible first | exact HB.out | apply below_alloc | apply pw_below_drewN | apply below_drew1 | refine below_set ?_ GE161.out) | exact HB.out)⟩⟩
        · rw [if_neg c8] at H
          have c8b0 : decide (a0_1 < (-128)) = false := decide_eq_false c8
          clear c8
          by_cases c10 : a0_1 > 127
          · rw [if_pos c10] at H
            have c10b0 : decide (127 < a0_1) = true := decide_eq_true c10
            clear c10
            have H' := Aside0.mk H
            clear H
            have hcz11_0 : w3.cell? ⟨gb161, 0, none⟩ = some (.int .i64 a0_0) := (blk_cell BK161.out 0).trans rfl
            have hcz11_1 : w3.cell? ⟨gb161, 1, none⟩ = some (.int .i64 a0_1) := (blk_cell BK161.out 1).trans rfl
            have hcz11_2 : w3.cell? ⟨gb161, 2, none⟩ = some (.int .i64 a0_2) := (blk_cell BK161.out 2).trans rfl
            have hcz11_3 : w3.cell? ⟨gb161, 3, none⟩ = some (.string a0_3) := (blk_cell BK161.out 3).trans rfl
            have hfz11_0 := blk_frozen BK161.out 0
            have hfz11_1 := blk_frozen BK161.out 1
            have hfz11_2 := blk_frozen BK161.out 2
            have hfz11_3 := blk_frozen BK161.out 3
            go_wp2
            go_meet
            case rel => exact ⟨_, (true), (by first | rfl | (simp; done) | (simp [*]; done)), H', ⟨by first | omega | exact Nat.le_refl _⟩, ⟨by (with_reducible repeat (first | refine blk_drewN ?_ _ | refine blk_drew ?_ | refine blk_alloc ?_ _)); exact BK161.out⟩, ⟨by repeat (first | (with_reducible first | exact HB.out | apply below_alloc | apply pw_below_drewN | apply below_drew1 | refine below_set ?_ GE161.out) | exact HB.out)⟩⟩
          · rw [if_neg c10] at H
            have c10b0 : decide (127 < a0_1) = false := decide_eq_false c10
            clear c10
            by_cases c12 : a0_2 < 0
            · rw [if_pos c12] at H
              have c12b0 : decide (a0_2 < 0) = true := decide_eq_true c12
              clear c12
              have H' := Aside0.mk H
              clear H
              have hcz13_0 : w3.cell? ⟨gb161, 0, none⟩ = some (.int .i64 a0_0) := (blk_cell BK161.out 0).trans rfl
              have hcz13_1 : w3.cell? ⟨gb161, 1, none⟩ = some (.int .i64 a0_1) := (blk_cell BK161.out 1).trans rfl
              have hcz13_2 : w3.cell? ⟨gb161, 2, none⟩ = some (.int .i64 a0_2) := (blk_cell BK161.out 2).trans rfl
              have hcz13_3 : w3.cell? ⟨gb161, 3, none⟩ = some (.string a0_3) := (blk_cell BK161.out 3).trans rfl
              have hfz13_0 := blk_frozen BK161.out 0
              have hfz13_1 := blk_frozen BK161.out 1
              have hfz13_2 := blk_frozen BK161.out 2
              have hfz13_3 := blk_frozen BK161.out 3
              go_wp2
              go_meet
              case rel => exact ⟨_, (true), (by first | rfl | (simp; done) | (simp [*]; done)), H', ⟨by first | omega | exact Nat.le_refl _⟩, ⟨by (with_reducible repeat (first | refine blk_drewN ?_ _ | refine blk_drew ?_ | refine blk_alloc ?_ _)); exact BK161.out⟩, ⟨by repeat (first | (with_reducible first | exact HB.out | apply below_alloc | apply pw_below_drewN | apply below_drew1 | refine below_set ?_ GE161.out) | exact HB.out)⟩⟩
            · rw [if_neg c12] at H
              have c12b0 : decide (a0_2 < 0) = false := decide_eq_false c12
              clear c12
              by_cases c14 : a0_2 > 1099511627776
              · rw [if_pos c14] at H
                have c14b0 : decide (1099511627776 < a0_2) = true := decide_eq_true c14
                clear c14
                have H' := Aside0.mk H
                clear H
                have hcz15_0 : w3.cell? ⟨gb161, 0, none⟩ = some (.int .i64 a0_0) := (blk_cell BK161.out 0).trans rfl
                have hcz15_1 : w3.cell? ⟨gb161, 1, none⟩ = some (.int .i64 a0_1) := (blk_cell BK161.out 1).trans rfl
                have hcz15_2 : w3.cell? ⟨gb161, 2, none⟩ = some (.int .i64 a0_2) := (blk_cell BK161.out 2).trans rfl
                have hcz15_3 : w3.cell? ⟨gb161, 3, none⟩ = some (.string a0_3) := (blk_cell BK161.out 3).trans rfl
                have hfz15_0 := blk_frozen BK161.out 0
                have hfz15_1 := blk_frozen BK161.out 1
                have hfz15_2 := blk_frozen BK161.out 2
                have hfz15_3 := blk_frozen BK161.out 3
                go_wp2
                go_meet
                case rel => exact ⟨_, (true), (by first | rfl | (simp; done) | (simp [*]; done)), H', ⟨by first | omega | exact Nat.le_refl _⟩, ⟨by (with_reducible repeat (first | refine blk_drewN ?_ _ | refine blk_drew ?_ | refine blk_alloc ?_ _)); exact BK161.out⟩, ⟨by repeat (first | (with_reducible first | exact HB.out | apply below_alloc | apply pw_below_drewN | apply below_drew1 | refine below_set ?_ GE161.out) | exact HB.out)⟩⟩
              · rw [if_neg c14] at H
                have c14b0 : decide (1099511627776 < a0_2) = false := decide_eq_false c14
                clear c14
                have H' := Aside0.mk H
                clear H
                have hcz16_0 : w3.cell? ⟨gb161, 0, none⟩ = some (.int .i64 a0_0) := (blk_cell BK161.out 0).trans rfl
                have hcz16_1 : w3.cell? ⟨gb161, 1, none⟩ = some (.int .i64 a0_1) := (blk_cell BK161.out 1).trans rfl
                have hcz16_2 : w3.cell? ⟨gb161, 2, none⟩ = some (.int .i64 a0_2) := (blk_cell BK161.out 2).trans rfl
                have hcz16_3 : w3.cell? ⟨gb161, 3, none⟩ = some (.string a0_3) := (blk_cell BK161.out 3).trans rfl
                have hfz16_0 := blk_frozen BK161.out 0
                have hfz16_1 := blk_frozen BK161.out 1
                have hfz16_2 := blk_frozen BK161.out 2
                have hfz16_3 := blk_frozen BK161.out 3
                go_wp2
                go_meet
                case rel => exact ⟨_, (decide ((a0_3.size : Int) > 32)), (by first | rfl | (simp; done) | (simp [*]; done)), H', ⟨by first | omega | exact Nat.le_refl _⟩, ⟨by (with_reducible repeat (first | refine blk_drewN ?_ _ | refine blk_drew ?_ | refine blk_alloc ?_ _)); exact BK161.out⟩, ⟨by repeat (first | (with_reducible first | exact HB.out | apply below_alloc | apply pw_below_drewN | apply below_drew1 | refine below_set ?_ GE161.out) | exact HB.out)⟩⟩
  case rest =>
    clear HC2
    try clear c1
    try clear p2
    try clear c4
    try clear c4b0
    try clear c6
    try clear c6b0
    try clear c8
    try clear c8b0
    try clear c10
    try clear c10b0
    try clear c12
    try clear c12b0
    try clear c14
    try clear c14b0
    try clear c16
    try clear hcz11_0
    try clear hcz11_1
    try clear hcz11_2
    try clear hcz11_3
    try clear hcz13_0
    try clear hcz13_1
    try clear hcz13_2
    try clear hcz13_3
    try clear hcz15_0
    try clear hcz15_1
    try clear hcz15_2
    try clear hcz15_3
    try clear hcz16_0
    try clear hcz16_1
    try clear hcz16_2
    try clear hcz16_3
    try clear hcz5_0
    try clear hcz5_1
    try clear hcz5_2
    try clear hcz5_3
    try clear hcz7_0
    try clear hcz7_1
    try clear hcz7_2
    try clear hcz7_3
    try clear hcz9_0
    try clear hcz9_1
    try clear hcz9_2
    try clear hcz9_3
    try clear hfz11_0
    try clear hfz11_1
    try clear hfz11_2
    try clear hfz11_3
    try clear hfz13_0
    try clear hfz13_1
    try clear hfz13_2
    try clear hfz13_3
    try clear hfz15_0
    try clear hfz15_1
    try clear hfz15_2
    try clear hfz15_3
    try clear hfz16_0
    try clear hfz16_1
    try clear hfz16_2
    try clear hfz16_3
    try clear hfz5_0
    try clear hfz5_1
    try clear hfz5_2
    try clear hfz5_3
    try clear hfz7_0
    try clear hfz7_1
    try clear hfz7_2
    try clear hfz7_3
    try clear hfz9_0
    try clear hfz9_1
    try clear hfz9_2
    try clear hfz9_3
    obtain ⟨kq, x37_1, rfl, HA, HJ1, BK161, HB⟩ := hcut
    cases kq with
    | zero => exact absurd HA.out (by simp [rollcallref04_May.j0])
    | succ kj1 =>
      have H := HA.out
      clear HA
      simp only [rollcallref04_May.j0] at H
      by_cases c17 : x37_1 = true
      · subst c17
        have H1 : (some false) = some r := by rw [if_pos rfl] at H; exact H
        clear H
        have H := H1
        clear H1
        obtain rfl := Option.some.inj H
        go_wp2
        go_ret
        exact ⟨by first | rfl | (simp [errW_none, errW_some] <;> rfl) | (simp [*, errW_none, errW_some] <;> rfl), by repeat (first | (with_reducible first | exact HB.out | apply below_alloc | apply pw_below_drewN | apply below_drew1 | refine below_set ?_ GE161.out) | exact HB.out)⟩
      · replace c17 := Bool.eq_false_iff.mpr c17
        subst c17
        have H1 : (rollcallref04_May.l0 kj1 0 a0_0 a0_1 a0_2 a0_3) = some r := by rw [if_neg (show ¬ (false = true) by decide)] at H; exact H
        clear H
        have H := H1
        clear H1
        have H' := Aside0.mk H
        clear H
        go_wp2
        go_loopg [3] kj1 (fun kq v3 w' => ∃ (x3_2 : Int), v3 = .int .i64 x3_2 ∧ Aside0 (rollcallref04_May.l0 kq x3_2 a0_0 a0_1 a0_2 a0_3 = some r) ∧ Aside0 (kq ≤ kj1) ∧ Aside0 (w'.heap[gb161]? = some (.cells #[.int .i64 a0_0, .int .i64 a0_1, .int .i64 a0_2, .string a0_3] 23 (0, 0))) ∧ Aside0 (Below w.heap.size w w'))
        case atStart => exact ⟨(0), (by first | rfl | (simp; done) | (simp [*]; done)), H', ⟨Nat.le_refl _⟩, ⟨by (with_reducible repeat (first | refine blk_drewN ?_ _ | refine blk_drew ?_ | refine blk_alloc ?_ _)); exact BK161.out⟩, ⟨by repeat (first | (with_reducible first | exact HB.out | apply below_alloc | apply pw_below_drewN | apply below_drew1 | refine below_set ?_ GE161.out) | exact HB.out)⟩⟩
        case round =>
          clear H'
          try clear c1
          try clear p2
          try clear c4
          try clear c4b0
          try clear c6
          try clear c6b0
          try clear c8
          try clear c8b0
          try clear c10
          try clear c10b0
          try clear c12
          try clear c12b0
          try clear c14
          try clear c14b0
          try clear c16
          try clear c17
          try clear hcz11_0
          try clear hcz11_1
          try clear hcz11_2
          try clear hcz11_3
          try clear hcz13_0
          try clear hcz13_1
          try clear hcz13_2
          try clear hcz13_3
          try clear hcz15_0
          try clear hcz15_1
          try clear hcz15_2
          try clear hcz15_3
          try clear hcz16_0
          try clear hcz16_1
          try clear hcz16_2
          try clear hcz16_3
          try clear hcz5_0
          try clear hcz5_1
          try clear hcz5_2
          try clear hcz5_3
          try clear hcz7_0
          try clear hcz7_1
          try clear hcz7_2
          try clear hcz7_3
          try clear hcz9_0
          try clear hcz9_1
          try clear hcz9_2
          try clear hcz9_3
          try clear hfz11_0
          try clear hfz11_1
          try clear hfz11_2
          try clear hfz11_3
          try clear hfz13_0
          try clear hfz13_1
          try clear hfz13_2
          try clear hfz13_3
          try clear hfz15_0
          try clear hfz15_1
          try clear hfz15_2
          try clear hfz15_3
          try clear hfz16_0
          try clear hfz16_1
          try clear hfz16_2
          try clear hfz16_3
          try clear hfz5_0
          try clear hfz5_1
          try clear hfz5_2
          try clear hfz5_3
          try clear hfz7_0
          try clear hfz7_1
          try clear hfz7_2
          try clear hfz7_3
          try clear hfz9_0
          try clear hfz9_1
          try clear hfz9_2
          try clear hfz9_3
          try clear p2
          obtain ⟨x3_2, rfl, HA, HK2, BK161, HB⟩ := hrel
          cases gk with
          | zero => exact absurd HA.out (by simp [rollcallref04_May.l0])
          | succ k2 =>
            have H := HA.out
            clear HA
            simp only [rollcallref04_May.l0] at H
            by_cases c18 : x3_2 < (a0_3.size : Int)
            · rw [if_pos c18] at H
              have c18b0 : decide (x3_2 < (a0_3.size : Int)) = true := decide_eq_true c18
              clear c18
              by_cases c19 : 0 ≤ x3_2
              · rw [if_pos c19] at H
                have c19b0 : decide (0 ≤ x3_2) = true := decide_eq_true c19
                clear c19
                by_cases c21 : (bt a0_3 x3_2) < 32
                · rw [if_pos c21] at H
                  have c21b0 : decide ((bt a0_3 x3_2) < 32) = true := decide_eq_true c21
                  clear c21
                  obtain rfl := Option.some.inj H
                  have hcz22_0 : wr.cell? ⟨gb161, 0, none⟩ = some (.int .i64 a0_0) := (blk_cell BK161.out 0).trans rfl
                  have hcz22_1 : wr.cell? ⟨gb161, 1, none⟩ = some (.int .i64 a0_1) := (blk_cell BK161.out 1).trans rfl
                  have hcz22_2 : wr.cell? ⟨gb161, 2, none⟩ = some (.int .i64 a0_2) := (blk_cell BK161.out 2).trans rfl
                  have hcz22_3 : wr.cell? ⟨gb161, 3, none⟩ = some (.string a0_3) := (blk_cell BK161.out 3).trans rfl
                  have hfz22_0 := blk_frozen BK161.out 0
                  have hfz22_1 := blk_frozen BK161.out 1
                  have hfz22_2 := blk_frozen BK161.out 2
                  have hfz22_3 := blk_frozen BK161.out 3
                  have p20 : 0 ≤ (x3_2 : Int) := of_decide_eq_true (by first | (with_reducible assumption) | assumption)
                  have q20 : x3_2 < (a0_3.size : Int) := of_decide_eq_true (by first | (with_reducible assumption) | assumption)
                  have hx20 := bt_at a0_3 x3_2
                  replace p20 := eq_true p20
                  replace q20 := eq_true q20
                  go_wp2
                  go_ret
                  exact ⟨by first | rfl | (simp [errW_none, errW_some] <;> rfl) | (simp [*, errW_none, errW_some] <;> rfl), by repeat (first | (with_reducible first | exact HB.out | apply below_alloc | apply pw_below_drewN | apply below_drew1 | refine below_set ?_ GE161.out) | exact HB.out)⟩
                · rw [if_neg c21] at H
                  have c21b0 : decide ((bt a0_3 x3_2) < 32) = false := decide_eq_false c21
                  clear c21
                  by_cases c24 : (bt a0_3 x3_2) > 126
                  · rw [if_pos c24] at H
                    have c24b0 : decide (126 < (bt a0_3 x3_2)) = true := decide_eq_true c24
                    clear c24
                    obtain rfl := Option.some.inj H
                    have hcz25_0 : wr.cell? ⟨gb161, 0, none⟩ = some (.int .i64 a0_0) := (blk_cell BK161.out 0).trans rfl
                    have hcz25_1 : wr.cell? ⟨gb161, 1, none⟩ = some (.int .i64 a0_1) := (blk_cell BK161.out 1).trans rfl
                    have hcz25_2 : wr.cell? ⟨gb161, 2, none⟩ = some (.int .i64 a0_2) := (blk_cell BK161.out 2).trans rfl
                    have hcz25_3 : wr.cell? ⟨gb161, 3, none⟩ = some (.string a0_3) := (blk_cell BK161.out 3).trans rfl
                    have hfz25_0 := blk_frozen BK161.out 0
                    have hfz25_1 := blk_frozen BK161.out 1
                    have hfz25_2 := blk_frozen BK161.out 2
                    have hfz25_3 := blk_frozen BK161.out 3
                    have p20 : 0 ≤ (x3_2 : Int) := of_decide_eq_true (by first | (with_reducible assumption) | assumption)
                    have q20 : x3_2 < (a0_3.size : Int) := of_decide_eq_true (by first | (with_reducible assumption) | assumption)
                    have hx20 := bt_at a0_3 x3_2
                    replace p20 := eq_true p20
                    replace q20 := eq_true q20
                    have p23 : 0 ≤ (x3_2 : Int) := of_decide_eq_true (by first | (with_reducible assumption) | assumption)
                    have q23 : x3_2 < (a0_3.size : Int) := of_decide_eq_true (by first | (with_reducible assumption) | assumption)
                    have hx23 := bt_at a0_3 x3_2
                    replace p23 := eq_true p23
                    replace q23 := eq_true q23
                    go_wp2
                    go_ret
                    exact ⟨by first | rfl | (simp [errW_none, errW_some] <;> rfl) | (simp [*, errW_none, errW_some] <;> rfl), by repeat (first | (with_reducible first | exact HB.out | apply below_alloc | apply pw_below_drewN | apply below_drew1 | refine below_set ?_ GE161.out) | exact HB.out)⟩
                  · rw [if_neg c24] at H
                    have c24b0 : decide (126 < (bt a0_3 x3_2)) = false := decide_eq_false c24
                    clear c24
                    have H' := Aside0.mk H
                    clear H
                    have hcz26_0 : wr.cell? ⟨gb161, 0, none⟩ = some (.int .i64 a0_0) := (blk_cell BK161.out 0).trans rfl
                    have hcz26_1 : wr.cell? ⟨gb161, 1, none⟩ = some (.int .i64 a0_1) := (blk_cell BK161.out 1).trans rfl
                    have hcz26_2 : wr.cell? ⟨gb161, 2, none⟩ = some (.int .i64 a0_2) := (blk_cell BK161.out 2).trans rfl
                    have hcz26_3 : wr.cell? ⟨gb161, 3, none⟩ = some (.string a0_3) := (blk_cell BK161.out 3).trans rfl
                    have hfz26_0 := blk_frozen BK161.out 0
                    have hfz26_1 := blk_frozen BK161.out 1
                    have hfz26_2 := blk_frozen BK161.out 2
                    have hfz26_3 := blk_frozen BK161.out 3
                    have p20 : 0 ≤ (x3_2 : Int) := of_decide_eq_true (by first | (with_reducible assumption) | assumption)
                    have q20 : x3_2 < (a0_3.size : Int) := of_decide_eq_true (by first | (with_reducible assumption) | assumption)
                    have hx20 := bt_at a0_3 x3_2
                    replace p20 := eq_true p20
                    replace q20 := eq_true q20
                    have p23 : 0 ≤ (x3_2 : Int) := of_decide_eq_true (by first | (with_reducible assumption) | assumption)
                    have q23 : x3_2 < (a0_3.size : Int) := of_decide_eq_true (by first | (with_reducible assumption) | assumption)
                    have hx23 := bt_at a0_3 x3_2
                    replace p23 := eq_true p23
                    replace q23 := eq_true q23
                    go_wp2
                    go_roundg k2
                    case measure => have := HJ1.out; have := HK2.out; omega
                    case rel => exact ⟨(wrap64 (x3_2 + 1)), (by first | rfl | (simp; done) | (simp [*]; done)), H', ⟨by have := HJ1.out; have := HK2.out; omega⟩, ⟨by (with_reducible repeat (first | refine blk_drewN ?_ _ | refine blk_drew ?_ | refine blk_alloc ?_ _)); exact BK161.out⟩, ⟨by repeat (first | (with_reducible first | exact HB.out | apply below_alloc | apply pw_below_drewN | apply below_drew1 | refine below_set ?_ GE161.out) | exact HB.out)⟩⟩
              · rw [if_neg c19] at H
                exact absurd H (by simp)
            · rw [if_neg c18] at H
              have c18b0 : decide (x3_2 < (a0_3.size : Int)) = false := decide_eq_false c18
              clear c18
              obtain rfl := Option.some.inj H
              have hcz27_0 : wr.cell? ⟨gb161, 0, none⟩ = some (.int .i64 a0_0) := (blk_cell BK161.out 0).trans rfl
              have hcz27_1 : wr.cell? ⟨gb161, 1, none⟩ = some (.int .i64 a0_1) := (blk_cell BK161.out 1).trans rfl
              have hcz27_2 : wr.cell? ⟨gb161, 2, none⟩ = some (.int .i64 a0_2) := (blk_cell BK161.out 2).trans rfl
              have hcz27_3 : wr.cell? ⟨gb161, 3, none⟩ = some (.string a0_3) := (blk_cell BK161.out 3).trans rfl
              have hfz27_0 := blk_frozen BK161.out 0
              have hfz27_1 := blk_frozen BK161.out 1
              have hfz27_2 := blk_frozen BK161.out 2
              have hfz27_3 := blk_frozen BK161.out 3
              go_wp2
              go_ret
              exact ⟨by first | rfl | (simp [errW_none, errW_some] <;> rfl) | (simp [*, errW_none, errW_some] <;> rfl), by repeat (first | (with_reducible first | exact HB.out | apply below_alloc | apply pw_below_drewN | apply below_drew1 | refine below_set ?_ GE161.out) | exact HB.out)⟩

/-! ### rollcallref01_Put: function 22 -/
def rollcallref01_Put.l0 : Nat → Int → List Int → Option (ByteArray)
  | 0, _, _ => none
  | k + 1, x0, x3 => if x0 ≥ 128 then (if x3.length < 140737488355328 then (rollcallref01_Put.l0 k (IntKind.u64.wrap (Int.tdiv x0 128)) (x3 ++ [(IntKind.u64.wrap (128 + (Int.tmod x0 128))) % 256])) else (none)) else (if x3.length < 140737488355328 then (some (strOfNums (x3 ++ [(x0) % 256]))) else (none))
def rollcallref01_Put.f (k : Nat) (a0 : Int) : Option (ByteArray) := rollcallref01_Put.l0 k a0 (([] : List Int))
theorem rollcallref01_Put.mono_l : ∀ k, (∀ y0 y1, LeO (rollcallref01_Put.l0 k y0 y1) (rollcallref01_Put.l0 (k + 1) y0 y1))
  | 0 => fun _ _ r h => by simp [rollcallref01_Put.l0] at h
  | k + 1 => by
    have ih0 := rollcallref01_Put.mono_l k
    · intro y0 y1
      unfold rollcallref01_Put.l0
      repeat' first
      | (with_reducible exact ih0 _ _)
      | (with_reducible exact LeO.refl _)
      | (with_reducible exact LeO.none _)
      | (with_reducible refine LeO.ite ?_ ?_)
      | (with_reducible refine LeO.bind ?_ (fun _ => ?_))
      | exact ih0 _ _
      | exact LeO.none _
      | refine LeO.ite ?_ ?_
      | refine LeO.bind ?_ (fun _ => ?_)
theorem rollcallref01_Put.mono : ∀ a0 k, LeO (rollcallref01_Put.f k a0) (rollcallref01_Put.f (k + 1) a0) := by
  intro a0 k
  have ih0 := rollcallref01_Put.mono_l k
  unfold rollcallref01_Put.f
  repeat' first
      | (with_reducible exact ih0 _ _)
      | (with_reducible exact LeO.refl _)
      | (with_reducible exact LeO.none _)
      | (with_reducible refine LeO.ite ?_ ?_)
      | (with_reducible refine LeO.bind ?_ (fun _ => ?_))
      | exact ih0 _ _
      | exact LeO.none _
      | refine LeO.ite ?_ ?_
      | refine LeO.bind ?_ (fun _ => ?_)
set_option maxHeartbeats 8000000 in
set_option maxRecDepth 100000 in
theorem rollcallref01_Put.calls (k : Nat) (a0 : Int) (r : ByteArray) (w : World) (h : rollcallref01_Put.f k a0 = some r) :
    Calls Try.prog 22 #[.int .u64 a0] w fun e w' => e = .returned (.string r) ∧ Below w.heap.size w w' := by
  have HB := Aside0.mk (Below.refl w.heap.size w)
  have H : (rollcallref01_Put.l0 k a0 (([] : List Int))) = some r := h
  clear h
  obtain ⟨y162, hy162⟩ : ∃ y_ : List Int, y_ = (([] : List Int)) := ⟨_, rfl⟩
  replace H : (rollcallref01_Put.l0 k a0 y162) = some r := by first | (rw [hy162]; with_reducible exact H) | (have H2_ := (Option.bind_some _ _).symm.trans H; rw [hy162]; with_reducible exact H2_) | (have H2_ := (Option.bind_some _ _).symm.trans H; with_reducible exact H2_) | with_reducible exact H | (rw [hy162]; exact H) | exact H
  have Ny162 := Aside0.mk hy162
  clear hy162
  have H' := Aside0.mk H
  clear H
  go_enter Try.func22, Try.ntmps22
  go_wp2_with (first | ((with_reducible refine gate_dst (N := 4) rfl ?_); refine Kd.R_lit (Kd.int .u8) _ 5 ?hg (N := 4) ?hd (xs := ([] : List Int)) (inner := []) (ok := fun _ => True) (okp := fun _ => True) ?hr ?hp (fun _ hk => hk) trivial (Below.refl _ _) (Nat.le_refl _) (by simp) ?_; (case hd => rfl); (case hg => rfl); (case hr => first | (go_simp; done) | (go_simp; rfl)); (case hp => exact (Reps.none _ _)); intro v163 w2 ho3 hb hg_ hnew_; clear hg_ hnew_; (first | rw [← Ny162.out] at ho3 | (simp only [Int.reduceToNat] at ho3; rw [← Ny162.out] at ho3)); have n0_ := Aside0.mk (Kd.R_lower ho3 (below_size (by repeat (first | (with_reducible first | exact HB.out | apply below_alloc | apply pw_below_drewN | apply below_drew1) | exact HB.out)))); have n1_ := Aside0.mk (below_step (by repeat (first | (with_reducible first | exact HB.out | apply below_alloc | apply pw_below_drewN | apply below_drew1) | exact HB.out)) hb); clear HB; have HO164 := n0_; have HB := n1_; clear n0_ n1_; clear hb ho3))
  go_loopg [0, 3] k (fun kq v0 v3 w' => ∃ (x0_1 : Int) (x3_1 : List Int), v0 = .int .u64 x0_1 ∧ Aside0 (rollcallref01_Put.l0 kq x0_1 x3_1 = some r) ∧ Aside0 (kq ≤ k) ∧ Aside0 (Kd.R (Kd.int .u8) 5 w' w.heap.size (fun _ => True) v3 x3_1) ∧ Aside0 (Below w.heap.size w w'))
  case atStart => exact ⟨(a0), (y162), (by first | rfl | (simp; done) | (simp [*]; done)), H', ⟨Nat.le_refl _⟩, ⟨by (with_reducible repeat (first | apply Kd.R_alloc | apply Kd.R_drewN | apply Kd.R_drew)); exact HO164.out⟩, ⟨by repeat (first | (with_reducible first | exact HB.out | apply below_alloc | apply pw_below_drewN | apply below_drew1) | exact HB.out)⟩⟩
  case round =>
    clear H'
    try clear c2
    try clear p2
    obtain ⟨x0_1, x3_1, rfl, HA, HK1, HO_3, HB⟩ := hrel
    cases gk with
    | zero => exact absurd HA.out (by simp [rollcallref01_Put.l0])
    | succ k1 =>
      have H := HA.out
      clear HA
      simp only [rollcallref01_Put.l0] at H
      by_cases c4 : x0_1 ≥ 128
      · rw [if_pos c4] at H
        have c4b0 : decide (128 ≤ x0_1) = true := decide_eq_true c4
        clear c4
        by_cases c5 : x3_1.length < 140737488355328
        · rw [if_pos c5] at H
          have LMc5 := Aside0.mk c5
          clear c5
          obtain ⟨y165, hy165⟩ : ∃ y_ : List Int, y_ = (x3_1 ++ [(IntKind.u64.wrap (128 + (Int.tmod x0_1 128))) % 256]) := ⟨_, rfl⟩
          replace H : (rollcallref01_Put.l0 k1 (IntKind.u64.wrap (Int.tdiv x0_1 128)) y165) = some r := by first | (rw [hy165]; with_reducible exact H) | (have H2_ := (Option.bind_some _ _).symm.trans H; rw [hy165]; with_reducible exact H2_) | (have H2_ := (Option.bind_some _ _).symm.trans H; with_reducible exact H2_) | with_reducible exact H | (rw [hy165]; exact H) | exact H
          have Ny165 := Aside0.mk hy165
          clear hy165
          have H' := Aside0.mk H
          clear H
          go_wp2_with (first | ((with_reducible refine gate_builtin (b := .append) (xs := #[.tmp 7, .tmp 12]) rfl ?_); at_builtin; refine Kd.R_append (Kd.int .u8) (w0 := w) w.heap.size rfl (.tmp 7) (.tmp 12) 41 5 (.int .u8 0) 1 rfl Try.underlying41 info5 rfl (by decide) (by omega) u3 x3_1 ((IntKind.u64.wrap (128 + (Int.tmod x0_1 128))) % 256) [.int .u8 ((IntKind.u64.wrap (128 + (Int.tmod x0_1 128))) % 256)] (fun _ => True) (fun _ => False) rfl rfl ?aP (fun _ hk => hk.elim) ?aF ?aO ?aB ?aS ?aL ?_; (case aP => exact rfl); (case aB => exact (by repeat (first | (with_reducible first | exact HB.out | apply below_alloc | apply pw_below_drewN | apply below_drew1) | exact HB.out))); (case aF => exact (fun _ _ => trivial)); (case aO => exact (by (with_reducible repeat (first | apply Kd.R_alloc | apply Kd.R_drewN | apply Kd.R_drew)); exact HO_3.out)); (case aS => exact (below_size (by repeat (first | (with_reducible first | exact HB.out | apply below_alloc | apply pw_below_drewN | apply below_drew1) | exact HB.out)))); (case aL => have := LMc5.out; omega); intro v166 w6 ho hb hg hat; rw [← Ny165.out] at ho; have n0_ := Aside0.mk (hb); have n1_ := Aside0.mk (ho); clear HB; clear HO_3; have HB := n0_; have HO167 := n1_; clear n0_ n1_; clear ho hb hg hat))
          go_roundg k1
          case measure => have := HK1.out; omega
          case rel => exact ⟨(IntKind.u64.wrap (Int.tdiv x0_1 128)), (y165), (by first | rfl | (simp; done) | (simp [*]; done)), H', ⟨by have := HK1.out; omega⟩, ⟨by (with_reducible repeat (first | apply Kd.R_alloc | apply Kd.R_drewN | apply Kd.R_drew)); exact HO167.out⟩, ⟨by repeat (first | (with_reducible first | exact HB.out | apply below_alloc | apply pw_below_drewN | apply below_drew1) | exact HB.out)⟩⟩
        · rw [if_neg c5] at H
          exact absurd H (by simp)
      · rw [if_neg c4] at H
        have c4b0 : decide (128 ≤ x0_1) = false := decide_eq_false c4
        clear c4
        by_cases c7 : x3_1.length < 140737488355328
        · rw [if_pos c7] at H
          have LMc7 := Aside0.mk c7
          clear c7
          obtain ⟨y168, hy168⟩ : ∃ y_ : List Int, y_ = (x3_1 ++ [(x0_1) % 256]) := ⟨_, rfl⟩
          replace H : (some (strOfNums y168)) = some r := by first | (rw [hy168]; with_reducible exact H) | (have H2_ := (Option.bind_some _ _).symm.trans H; rw [hy168]; with_reducible exact H2_) | (have H2_ := (Option.bind_some _ _).symm.trans H; with_reducible exact H2_) | with_reducible exact H | (rw [hy168]; exact H) | exact H
          have Ny168 := Aside0.mk hy168
          clear hy168
          obtain rfl := Option.some.inj H
          go_wp2_with (first | ((with_reducible refine gate_builtin (b := .append) (xs := #[.tmp 16, .tmp 19]) rfl ?_); at_builtin; refine Kd.R_append (Kd.int .u8) (w0 := w) w.heap.size rfl (.tmp 16) (.tmp 19) 41 5 (.int .u8 0) 1 rfl Try.underlying41 info5 rfl (by decide) (by omega) u3 x3_1 ((x0_1) % 256) [.int .u8 ((x0_1) % 256)] (fun _ => True) (fun _ => False) rfl rfl ?aP (fun _ hk => hk.elim) ?aF ?aO ?aB ?aS ?aL ?_; (case aP => exact rfl); (case aB => exact (by repeat (first | (with_reducible first | exact HB.out | apply below_alloc | apply pw_below_drewN | apply below_drew1) | exact HB.out))); (case aF => exact (fun _ _ => trivial)); (case aO => exact (by (with_reducible repeat (first | apply Kd.R_alloc | apply Kd.R_drewN | apply Kd.R_drew)); exact HO_3.out)); (case aS => exact (below_size (by repeat (first | (with_reducible first | exact HB.out | apply below_alloc | apply pw_below_drewN | apply below_drew1) | exact HB.out)))); (case aL => have := LMc7.out; omega); intro v169 w8 ho hb hg hat; rw [← Ny168.out] at ho; have n0_ := Aside0.mk (hb); have n1_ := Aside0.mk (ho); clear HB; clear HO_3; have HB := n0_; have HO170 := n1_; clear n0_ n1_; clear ho hb hg hat; have hcv9 := own_string (P := Try.prog) Try.underlying41 Try.underlying5 Try.underlying9 (Kd.own_of_R HO170.out)))
          go_ret
          exact ⟨by first | rfl | (simp [errW_none, errW_some] <;> rfl) | (simp [*, errW_none, errW_some] <;> rfl), by repeat (first | (with_reducible first | exact HB.out | apply below_alloc | apply pw_below_drewN | apply below_drew1) | exact HB.out)⟩
        · rw [if_neg c7] at H
          exact absurd H (by simp)

/-! ### rollcallref01_Text: function 23 -/
def rollcallref01_Text.f (k : Nat) (a0 : ByteArray) : Option (ByteArray) := (rollcallref01_Put.f k (IntKind.u64.wrap ((a0.size : Int)))).bind fun t171 => (if t171.size + a0.size ≤ 9223372036854775807 then (some (t171 ++ a0)) else (none))
theorem rollcallref01_Text.mono : ∀ a0 k, LeO (rollcallref01_Text.f k a0) (rollcallref01_Text.f (k + 1) a0) := by
  intro a0 k
  unfold rollcallref01_Text.f
  repeat' first
      | (with_reducible exact rollcallref01_Put.mono _ _)
      | (with_reducible exact LeO.refl _)
      | (with_reducible exact LeO.none _)
      | (with_reducible refine LeO.ite ?_ ?_)
      | (with_reducible refine LeO.bind ?_ (fun _ => ?_))
      | exact rollcallref01_Put.mono _ _
      | exact LeO.none _
      | refine LeO.ite ?_ ?_
      | refine LeO.bind ?_ (fun _ => ?_)
set_option maxHeartbeats 8000000 in
set_option maxRecDepth 100000 in
theorem rollcallref01_Text.calls (k : Nat) (a0 : ByteArray) (r : ByteArray) (w : World) (h : rollcallref01_Text.f k a0 = some r) :
    Calls Try.prog 23 #[.string a0] w fun e w' => e = .returned (.string r) ∧ Below w.heap.size w w' := by
  have HB := Aside0.mk (Below.refl w.heap.size w)
  have H : ((rollcallref01_Put.f k (IntKind.u64.wrap ((a0.size : Int)))).bind fun t171 => (if t171.size + a0.size ≤ 9223372036854775807 then (some (t171 ++ a0)) else (none))) = some r := h
  clear h
  replace H := Option.bind_eq_some_iff.mp H
  obtain ⟨t171, A20, H⟩ := H
  replace H : (if t171.size + a0.size ≤ 9223372036854775807 then (some (t171 ++ a0)) else (none)) = some r := H
  have A2 := Aside0.mk A20
  clear A20
  by_cases c3 : t171.size + a0.size ≤ 9223372036854775807
  · rw [if_pos c3] at H
    have c3b0 := eq_true c3
    have c3b1 : decide (t171.size + a0.size ≤ 9223372036854775807) = true := decide_eq_true c3
    try have c3b2 : (9223372036854775807 < t171.size + a0.size) = False := eq_false (Nat.not_lt.2 c3)
    (try (have c3b3 := c3b0; simp only [ByteArray.size_append] at c3b3))
    (try (have c3b4 := c3b2; simp only [ByteArray.size_append] at c3b4))
    clear c3
    obtain rfl := Option.some.inj H
    go_enter Try.func23, Try.ntmps23
    go_wp2_with (first | ((with_reducible refine gate_callee (f := 22) rfl ?_); refine goesL_ (some 6) rfl rfl Try.func22 (by kernel_rfl) rfl #[.int .u64 (IntKind.u64.wrap ((a0.size : Int)))] rfl (by (try simp only [List.map_toArray, List.map_cons, List.map_nil]); first | done | rfl | (simp only [List.length_drop, List.length_take]; rfl)) ?_; (with_reducible refine (rollcallref01_Put.calls k (IntKind.u64.wrap ((a0.size : Int))) t171 _ A2.out).mono ?_); rintro e w4 ⟨rfl, hb⟩; refine ⟨_, rfl, ?_⟩; have n0_ := Aside0.mk (below_step (by repeat (first | (with_reducible first | exact HB.out | apply below_alloc | apply pw_below_drewN | apply below_drew1) | exact HB.out)) hb); clear HB; have HB := n0_; clear n0_; (try clear hb); (try clear hb2); (try clear hk); (try clear hi)))
    go_ret
    exact ⟨by first | rfl | (simp [errW_none, errW_some] <;> rfl) | (simp [*, errW_none, errW_some] <;> rfl), by repeat (first | (with_reducible first | exact HB.out | apply below_alloc | apply pw_below_drewN | apply below_drew1) | exact HB.out)⟩
  · rw [if_neg c3] at H
    exact absurd H (by simp)

end Go.Proofs.Ytgchnnkbknaklaa.PA
