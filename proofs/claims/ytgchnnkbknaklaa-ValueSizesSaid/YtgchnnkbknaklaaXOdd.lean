/- The predicate of value.May, and what slices finds by it, walked. -/
import Derived.Test.YtgchnnkbknaklaaProg
import Derived.Below
import Derived.Deep.Draws
import Derived.Deep.AppendLies
import Derived.Maps.AppendAt
import Derived.OwnWalk
import Derived.Laws.BytesArg
import Derived.Laws.MakeOwn
import Derived.Laws.OwnMore
import Derived.Deep.OwnRows
import Derived.Tactics
import Derived.Lib.ConvBytes
import Derived.Laws.Slices
import Derived.WalkKit
import Derived.KernelRfl
import Derived.RowKit3
import Derived.Deep.LoopGhost
import Derived.Deep.QuietTactic
import Derived.BigQuiet
import Derived.WideLaws
import Derived.Deep.DeepCutAuto
import Derived.Deep.CutBlock
import Derived.Deep.RegionHeld3
import Derived.Laws.Rows
import Derived.Lib.AppendStr
import Derived.ArgAppend
import Derived.Laws.IdiomCopy
import Derived.OrdersHeld
import Derived.Laws.BitsLemmas
import Derived.RowKit
import Derived.Test.YtgchnnkbknaklaaWWords
import Derived.Test.YtgchnnkbknaklaaWLast
import Derived.Test.YtgchnnkbknaklaaWTab
import Derived.Test.YtgchnnkbknaklaaWFour
import Derived.Test.YtgchnnkbknaklaaWQPut
import Derived.Test.YtgchnnkbknaklaaWApart
import Derived.Test.YtgchnnkbknaklaaWArr
import Derived.Test.YtgchnnkbknaklaaWZeros
import Derived.Test.YtgchnnkbknaklaaWFoot
import Derived.Test.YtgchnnkbknaklaaWKept
import Derived.Test.YtgchnnkbknaklaaWShare
import Derived.Test.YtgchnnkbknaklaaWN
import Derived.Test.YtgchnnkbknaklaaWFootNe
import Derived.Test.YtgchnnkbknaklaaWAt
import Derived.Test.YtgchnnkbknaklaaWEqStruct
import Derived.Test.YtgchnnkbknaklaaWRepsOne
import Derived.Test.YtgchnnkbknaklaaWInv
import Derived.Test.YtgchnnkbknaklaaWInvWords
import Derived.Test.YtgchnnkbknaklaaWGuard
import Derived.Test.YtgchnnkbknaklaaWNEv
import Derived.Test.YtgchnnkbknaklaaWMore
import Derived.Lib.Strings
namespace Go.Proofs.Ytgchnnkbknaklaa.XOdd
open Go.RowKit Go.Proofs.YtgchnnkbknaklaaW.PrintWords Go.Proofs.YtgchnnkbknaklaaW.PrintLast Go.Proofs.YtgchnnkbknaklaaW.PrintMore
set_option linter.unusedVariables false
set_option linter.unusedSimpArgs false
def odd (c : Int) : Bool := decide (c < 32) || decide (126 < c)
theorem pred (c : Int) (w : World) : Calls Try.prog 26 #[.int .u8 c] w fun e w' => e = .returned (.bool (odd c)) ∧ w' = w := by
  unfold odd
  by_cases h1 : c < 32
  · go_enter Try.func26, Try.ntmps26
    go_wp2
    go_ret
    exact ⟨by simp [h1], rfl⟩
  · by_cases h2 : 126 < c
    · go_enter Try.func26, Try.ntmps26
      go_wp2
      go_ret
      exact ⟨by simp [h2], rfl⟩
    · go_enter Try.func26, Try.ntmps26
      go_wp2
      go_ret
      exact ⟨by simp [h1, h2], rfl⟩
/-- The first place from i on at which something is so; -1: there is none. -/
def idx (p : Int → Bool) : List Int → Int → Int
  | [], _ => -1
  | x :: t, i => if p x = true then i else idx p t (i + 1)
theorem idx_any (p : Int → Bool) : ∀ (l : List Int) (i : Int), 0 ≤ i → decide (0 ≤ idx p l i) = l.any p
  | [], i, _ => rfl
  | x :: t, i, h => by
    rw [idx, List.any_cons]
    by_cases c : p x = true
    · rw [if_pos c, c]; simp [h]
    · rw [if_neg c, idx_any p t (i + 1) (by omega)]
      simp [c]
theorem idx_range (p : Int → Bool) : ∀ (l : List Int) (i : Int), 0 ≤ i → -1 ≤ idx p l i ∧ idx p l i < i + l.length + 1
  | [], i, _ => by simp [idx]; omega
  | x :: t, i, h => by
    rw [idx]
    split
    · simp; omega
    · have := idx_range p t (i + 1) (by omega)
      simp; omega
set_option maxHeartbeats 4000000 in
theorem index_func (A : Option Addr) (n c : Nat) (l : List Int) (w : World) (hn : n = l.length) (hr : Kd.C (Kd.int .u8) w A n l) :
    Calls Try.prog 32 #[.slice A n c, .func (.func 26) #[] #[]] w fun e w' => e = .returned (.int .i64 (idx odd l 0)) ∧ w' = w := by
  have hmax := Kd.C_max hr
  have HR := Aside0.mk hr
  have HN := Aside0.mk hn
  clear hr hn
  go_enter Try.func32, Try.ntmps32
  go_wp2
  go_loop [8] (fun i => ∃ k : Nat, k ≤ n ∧ i = .int .i64 k ∧ Aside0 (idx odd l 0 = idx odd (l.drop k) k)) (fun i => n - (intOf i).toNat)
  case atStart => exact ⟨0, Nat.zero_le _, rfl, ⟨rfl⟩⟩
  case round =>
    obtain ⟨k, hk, rfl, HI⟩ := hrel
    by_cases hlt : k < n
    · obtain ⟨ad, hA, hcell⟩ := Kd.at_int HR.out (k : Int) (by omega) (by omega)
      subst hA
      rw [Int.toNat_natCast] at hcell
      have hd : l.drop k = l[k]'(by have := HN.out; omega) :: l.drop (k + 1) := List.drop_eq_getElem_cons (by have := HN.out; omega)
      have hx : rd l (k : Int) = l[k]'(by have := HN.out; omega) := by
        unfold rd
        rw [Int.toNat_natCast, List.getD_eq_getElem?_getD, List.getElem?_eq_getElem (by have := HN.out; omega)]
        rfl
      rw [← hx] at hd
      have HD := Aside0.mk hd
      clear hx hd
      obtain ⟨x, hx⟩ : ∃ x, x = rd l (k : Int) := ⟨_, rfl⟩
      rw [← hx] at hcell HD
      clear hx
      have hp := pred x
      by_cases hb : odd x = true
      · have HE := Aside0.mk (show idx odd l 0 = (k : Int) by rw [HI.out, HD.out, idx, if_pos hb])
        rw [hb] at hp
        clear hb HI HD
        go_wp2_with (go_at_call 26; refine (hp _).mono ?_; rintro e w' ⟨rfl, rfl⟩)
        go_ret
        exact ⟨by rw [HE.out]; rfl, rfl⟩
      · have HE := Aside0.mk (show idx odd l 0 = idx odd (l.drop (k + 1)) ((k + 1 : Nat) : Int) by rw [HI.out, HD.out, idx, if_neg hb]; rfl)
        rw [Bool.eq_false_iff.mpr hb] at hp
        clear hb HI HD
        go_wp2_with (go_at_call 26; refine (hp _).mono ?_; rintro e w' ⟨rfl, rfl⟩)
        go_round
        case rel => exact ⟨k + 1, by omega, by go_num, HE⟩
        case measure => simp [intOf]; omega
    · obtain rfl : n = k := by omega
      have HE := Aside0.mk (show idx odd l 0 = -1 by rw [HI.out, List.drop_eq_nil_of_le (by have := HN.out; omega)]; rfl)
      clear HI
      go_wp2
      go_ret
      exact ⟨by rw [HE.out]; rfl, rfl⟩
theorem contains_func (A : Option Addr) (n c : Nat) (l : List Int) (w : World) (hn : n = l.length) (hr : Kd.C (Kd.int .u8) w A n l) :
    Calls Try.prog 27 #[.slice A n c, .func (.func 26) #[] #[]] w fun e w' => e = .returned (.bool (l.any odd)) ∧ w' = w := by
  have hi := index_func A n c l w hn hr
  have HA := Aside0.mk (idx_any odd l 0 (by omega))
  generalize idx odd l 0 = z at hi HA
  clear hr hn
  go_enter Try.func27, Try.ntmps27
  go_wp2_with (go_at_call 32; refine hi.mono ?_; rintro e w' ⟨rfl, rfl⟩)
  go_ret
  exact ⟨by rw [← HA.out]; rfl, rfl⟩
end Go.Proofs.Ytgchnnkbknaklaa.XOdd
