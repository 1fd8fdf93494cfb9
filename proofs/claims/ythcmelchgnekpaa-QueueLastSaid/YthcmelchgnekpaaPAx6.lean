-- Written by a program of this session (wip/tools/xprint.py), which drives the kit's print.
import Derived.Test.YthcmelchgnekpaaPAx0
import Derived.Test.YthcmelchgnekpaaPAx2
import Derived.Test.YthcmelchgnekpaaPAx4
import Derived.Test.YthcmelchgnekpaaPAx5
import Derived.Test.YthcmelchgnekpaaXLive17w
namespace Go.Proofs.Ythcmelchgnekpaa.PA
open Go.RowKit Go.Proofs.YthcmelchgnekpaaW.PrintWords Go.Proofs.YthcmelchgnekpaaW.PrintLast Go.Proofs.YthcmelchgnekpaaW.PrintMore
attribute [local go_sem] max2_int min2_int max_two min_two max_three min_three max_four min_four   -- for this text's walks alone
set_option linter.unusedVariables false
set_option linter.unusedSimpArgs false

attribute [local go_sem high] eqA33
/-! ### rollcalllaw17_live: function 10 -/
def rollcalllaw17_live.f (k : Nat)  : Option (Bool) := (queue_Push.f ([] : List (S33)) false (⟨#[97]⟩ : ByteArray) true 4 0 0 (⟨#[]⟩ : ByteArray) 2).bind fun bt167 => ((queue_Push.f bt167.1 bt167.2 (⟨#[98]⟩ : ByteArray) false 0 0 0 (⟨#[]⟩ : ByteArray) 2).bind fun bt171 => ((queue_Push.f bt171.1 bt171.2 (⟨#[97]⟩ : ByteArray) false 0 0 0 (⟨#[]⟩ : ByteArray) 2).bind fun bt175 => ((queue_Pop.f bt175.1 bt175.2).bind fun bt180 => ((queue_Push.f bt175.1 bt175.2 (⟨#[99]⟩ : ByteArray) false 0 0 0 (⟨#[]⟩ : ByteArray) 2).bind fun bt193 => ((queue_Find.f bt175.1 bt175.2 (⟨#[98]⟩ : ByteArray)).bind fun bt198 => ((queue_Find.f bt175.1 bt175.2 (⟨#[99]⟩ : ByteArray)).bind fun bt206 => ((queue_Pop.f ([] : List (S33)) false).bind fun bt214 => ((rollcallref17_Same.f k bt175.1 bt175.2 (([(⟨(⟨#[97]⟩ : ByteArray), false, (⟨0, 0, 0, (⟨#[]⟩ : ByteArray)⟩ : S31)⟩ : S33), (⟨(⟨#[98]⟩ : ByteArray), false, (⟨0, 0, 0, (⟨#[]⟩ : ByteArray)⟩ : S31)⟩ : S33)] : List (S33))) false).bind fun t230 => (if t230 = true then (if (bt180.1.toList == ([97] : List UInt8) && (!bt180.2.1 && ((bt180.2.2.1 == 0 && (bt180.2.2.2.1 == 0 && (bt180.2.2.2.2.1 == 0 && (bt180.2.2.2.2.2.1.toList == ([] : List UInt8)))))))) = true then (if bt180.2.2.2.2.2.2.2.2 = true then ((rollcallref17_Same.f k bt180.2.2.2.2.2.2.1 bt180.2.2.2.2.2.2.2.1 (([(⟨(⟨#[98]⟩ : ByteArray), false, (⟨0, 0, 0, (⟨#[]⟩ : ByteArray)⟩ : S31)⟩ : S33)] : List (S33))) false).bind fun t234 => (if t234 = true then (if bt193.2 = true then (if (bt193.1.length : Int) = 0 then (if (bt198.1.toList == ([98] : List UInt8) && (!bt198.2.1 && ((bt198.2.2.1 == 0 && (bt198.2.2.2.1 == 0 && (bt198.2.2.2.2.1 == 0 && (bt198.2.2.2.2.2.1.toList == ([] : List UInt8)))))))) = true then (if bt198.2.2.2.2.2.2 = true then (if bt206.2.2.2.2.2.2 = true then (some false) else (if bt214.2.2.2.2.2.2.2.2 = true then (some false) else ((queue_One.f (⟨#[97]⟩ : ByteArray) true 4 0 0 (⟨#[]⟩ : ByteArray)).bind fun t235 => (if t235 = true then ((queue_One.f (⟨#[97]⟩ : ByteArray) true 0 0 0 (⟨#[]⟩ : ByteArray)).bind fun t236 => (if t236 = true then (some false) else ((queue_May.f k bt175.1 bt175.2 2).bind fun t237 => (if t237 = true then ((queue_May.f k bt175.1 bt175.2 1).bind fun t238 => (if t238 = true then (some false) else ((queue_Empty.f ([] : List (S33)) false).bind fun t239 => (if t239 = true then ((queue_Empty.f bt193.1 bt193.2).bind fun t240 => (if t240 = true then (some false) else ((queue_Over.f k (([(⟨(⟨#[97]⟩ : ByteArray), (⟨4, 0, 0, (⟨#[]⟩ : ByteArray)⟩ : S31)⟩ : S52)] : List (S52))) bt175.1 bt175.2).bind fun t244 => (some ((t244.length : Int) == 0))))) else (some false))))) else (some false))))) else (some false))))) else (some false)) else (some false)) else (some false)) else (some false)) else (some false))) else (some false)) else (some false)) else (some false))))))))))
theorem rollcalllaw17_live.mono : ∀ k, LeO (rollcalllaw17_live.f k ) (rollcalllaw17_live.f (k + 1) ) := by
  intro  k
  unfold rollcalllaw17_live.f
  repeat' first
      | (with_reducible exact queue_May.mono _ _ _ _)
      | (with_reducible exact queue_Over.mono _ _ _ _)
      | (with_reducible exact rollcallref17_Same.mono _ _ _ _ _)
      | (with_reducible exact LeO.refl _)
      | (with_reducible exact LeO.none _)
      | (with_reducible refine LeO.ite ?_ ?_)
      | (with_reducible refine LeO.bind ?_ (fun _ => ?_))
      | exact queue_May.mono _ _ _ _
      | exact queue_Over.mono _ _ _ _
      | exact rollcallref17_Same.mono _ _ _ _ _
      | exact LeO.none _
      | refine LeO.ite ?_ ?_
      | refine LeO.bind ?_ (fun _ => ?_)
theorem rollcalllaw17_live.callsT (k : Nat)  (r : Bool) (hT_ : r = true) (w : World) (h : rollcalllaw17_live.f k  = some r) :
    Calls Try.prog 10 #[] w fun e w' => e = .returned (.bool r) ∧ Below w.heap.size w w' := by
  subst hT_
  exact Go.Proofs.Ythcmelchgnekpaa.XLive17.live_walk w
theorem rollcalllaw17_live.calls (k : Nat) (r : Bool) (w : World) (h : rollcalllaw17_live.f k = some r) :
    Calls Try.prog 10 #[] w fun e w' => e = .returned (.bool r) ∧ Below w.heap.size w w' := by
  have h1 : rollcalllaw17_live.f 100 = some true := by kernel_rfl
  have h2 := at_rounds rollcalllaw17_live.mono (Nat.le_max_left k 100) h
  have h3 := at_rounds rollcalllaw17_live.mono (Nat.le_max_right k 100) h1
  exact rollcalllaw17_live.callsT k r (Option.some.inj (h2.symm.trans h3)) w h

end Go.Proofs.Ythcmelchgnekpaa.PA
