/- ident.compare and ident.Less, walked: the shorter name first, then by bytes. -/
import Derived.Test.YthcmelchgnekpaaProg
import Derived.Below
import Derived.Deep.Draws
import Derived.Deep.AppendLies
import Derived.Maps.AppendAt
import Derived.OwnWalk
import Derived.Laws.BytesArg
import Derived.Laws.MakeOwn
import Derived.Laws.OwnMore
import Derived.Deep.OwnRows
import Derived.Tactics
import Derived.Lib.ConvBytes
import Derived.Laws.Slices
import Derived.WalkKit
import Derived.KernelRfl
import Derived.RowKit3
import Derived.Deep.LoopGhost
import Derived.Deep.QuietTactic
import Derived.BigQuiet
import Derived.WideLaws
import Derived.Deep.DeepCutAuto
import Derived.Deep.CutBlock
import Derived.Deep.RegionHeld3
import Derived.Laws.Rows
import Derived.Lib.AppendStr
import Derived.ArgAppend
import Derived.Laws.IdiomCopy
import Derived.OrdersHeld
import Derived.Laws.BitsLemmas
import Derived.RowKit
import Derived.Test.YthcmelchgnekpaaWWords
import Derived.Test.YthcmelchgnekpaaWLast
import Derived.Test.YthcmelchgnekpaaWTab
import Derived.Test.YthcmelchgnekpaaWFour
import Derived.Test.YthcmelchgnekpaaWQPut
import Derived.Test.YthcmelchgnekpaaWApart
import Derived.Test.YthcmelchgnekpaaWArr
import Derived.Test.YthcmelchgnekpaaWZeros
import Derived.Test.YthcmelchgnekpaaWFoot
import Derived.Test.YthcmelchgnekpaaWKept
import Derived.Test.YthcmelchgnekpaaWShare
import Derived.Test.YthcmelchgnekpaaWN
import Derived.Test.YthcmelchgnekpaaWFootNe
import Derived.Test.YthcmelchgnekpaaWAt
import Derived.Test.YthcmelchgnekpaaWEqStruct
import Derived.Test.YthcmelchgnekpaaWRepsOne
import Derived.Test.YthcmelchgnekpaaWInv
import Derived.Test.YthcmelchgnekpaaWInvWords
import Derived.Test.YthcmelchgnekpaaWGuard
import Derived.Test.YthcmelchgnekpaaWNEv
import Derived.Test.YthcmelchgnekpaaWMore
import Derived.Handy
import Derived.Lib.Bytealg
import Derived.Lib.Strings
namespace Go.Proofs.Ythcmelchgnekpaa.XLess
open Go.RowKit Go.Proofs.YthcmelchgnekpaaW.PrintWords Go.Proofs.YthcmelchgnekpaaW.PrintLast Go.Proofs.YthcmelchgnekpaaW.PrintMore
set_option linter.unusedVariables false
set_option linter.unusedSimpArgs false
def cmpI (x y : Int) : Int := if x < y then -1 else if x > y then 1 else 0
set_option maxRecDepth 100000 in
theorem cmp_int (x y : Int) (w : World) : Calls Try.prog 59 #[.int .i64 x, .int .i64 y] w fun e w' => e = .returned (.int .i64 (cmpI x y)) ∧ w' = w := by
  unfold cmpI
  rcases Int.lt_trichotomy x y with c | c | c
  · rw [if_pos c]
    go_enter Try.func59, Try.ntmps59
    go_wp2
    go_ret
    exact ⟨rfl, rfl⟩
  · subst c
    rw [if_neg (by omega), if_neg (by omega)]
    go_enter Try.func59, Try.ntmps59
    go_wp2
    go_ret
    exact ⟨rfl, rfl⟩
  · rw [if_neg (by omega), if_pos c]
    go_enter Try.func59, Try.ntmps59
    go_wp2
    go_ret
    exact ⟨rfl, rfl⟩
def byBytes (a b : ByteArray) : Int := Lib.compareBytes a.data.toList b.data.toList
set_option maxHeartbeats 1000000 in
set_option maxRecDepth 100000 in
theorem compareString (a b : ByteArray) (w : World) :
    Calls Try.prog 63 #[.string a, .string b] w fun e w' => e = .returned (.int .i64 (byBytes a b)) ∧ w' = w := by
  unfold byBytes
  go_enter Try.func63, Try.ntmps63
  go_wp2
  rw [run_callFunc_extern Try.func65 (by kernel_rfl) (by kernel_rfl) (by kernel_rfl) (e := Extern.BytealgCompare.compare) (by kernel_rfl), Lib.run_compareString]
  simp only [Result.andThen]
  rw [Oper.upon_value]
  go_wp2
  go_ret
  exact ⟨rfl, rfl⟩
theorem stringsCompare (a b : ByteArray) (w : World) :
    Calls Try.prog 60 #[.string a, .string b] w fun e w' => e = .returned (.int .i64 (byBytes a b)) ∧ w' = w := by
  go_enter Try.func60, Try.ntmps60
  go_wp2_with (go_at_call 63; refine (compareString _ _ _).mono ?_; rintro e w' ⟨rfl, rfl⟩)
  go_ret
  exact ⟨rfl, rfl⟩
def orI (x y : Int) : Int := if x ≠ 0 then x else y
set_option maxRecDepth 100000 in
theorem or2 (x y : Int) (p : Nat) (w : World) (h0 : w.cell? ⟨p, 0, none⟩ = some (.int .i64 x)) (h1 : w.cell? ⟨p, 1, none⟩ = some (.int .i64 y)) :
    Calls Try.prog 58 #[.slice (some ⟨p, 0, none⟩) 2 2] w fun e w' => e = .returned (.int .i64 (orI x y)) ∧ w' = w := by
  unfold orI
  by_cases c0 : x = 0
  · subst c0
    rw [if_neg (not_not_intro rfl)]
    by_cases c1 : y = 0
    · subst c1
      go_enter Try.func58, Try.ntmps58
      go_wp2
      refine wp_loop_rounds 3 ?_
      repeat any_goals (rw [rounds_succ]; go_wp2)
      go_ret
      exact ⟨rfl, rfl⟩
    · have c2 : (y == 0) = false := beq_eq_false_iff_ne.mpr c1
      have c3 : (y != 0) = true := bne_iff_ne.mpr c1
      clear c1
      go_enter Try.func58, Try.ntmps58
      go_wp2
      refine wp_loop_rounds 3 ?_
      repeat any_goals (rw [rounds_succ]; go_wp2)
      go_ret
      exact ⟨rfl, rfl⟩
  · rw [if_pos c0]
    have c2 : (x == 0) = false := beq_eq_false_iff_ne.mpr c0
    have c3 : (x != 0) = true := bne_iff_ne.mpr c0
    clear c0
    go_enter Try.func58, Try.ntmps58
    go_wp2
    refine wp_loop_rounds 3 ?_
    repeat any_goals (rw [rounds_succ]; go_wp2)
    go_ret
    exact ⟨rfl, rfl⟩
def ordI (a b : ByteArray) : Int := orI (cmpI a.size b.size) (byBytes a b)
set_option maxHeartbeats 4000000 in
set_option maxRecDepth 100000 in
theorem compare (a b : ByteArray) (w : World) :
    Calls Try.prog 54 #[.string a, .string b] w fun e w' => e = .returned (.int .i64 (ordI a b)) ∧ Below w.heap.size w w' := by
  have HB : ∀ o, Below w.heap.size w (w.alloc o) := fun o => below_alloc (Below.refl _ _) _
  unfold ordI
  have hc := cmp_int a.size b.size
  have hs := stringsCompare a b
  have ho := fun (p : Nat) (W : World) h0 h1 => or2 (cmpI a.size b.size) (byBytes a b) p W h0 h1
  generalize cmpI a.size b.size = x at hc ho ⊢
  generalize byBytes a b = y at hs ho ⊢
  go_enter Try.func54, Try.ntmps54
  go_wp2_with (first | (go_at_call 59; refine (hc _).mono ?_; rintro e w' ⟨rfl, rfl⟩) | (go_at_call 60; refine (hs _).mono ?_; rintro e w' ⟨rfl, rfl⟩) | (go_at_call 58; refine (ho _ _ (by simp) (by simp)).mono ?_; rintro e w' ⟨rfl, rfl⟩))
  go_ret
  exact ⟨rfl, HB _⟩
def lessB (a b : ByteArray) : Bool := decide (ordI a b < 0)
def ident_Less.f (a b : ByteArray) : Option Bool := some (lessB a b)
theorem ident_Less.calls (a0 : ByteArray) (a1 : ByteArray) (r : Bool) (w : World) (h : ident_Less.f a0 a1 = some r) :
    Calls Try.prog 45 #[.string a0, .string a1] w fun e w' => e = .returned (.bool r) ∧ Below w.heap.size w w' := by
  unfold ident_Less.f lessB at h
  obtain rfl := Option.some.inj h
  clear h
  have hc := compare a0 a1 w
  generalize ordI a0 a1 = x at hc ⊢
  go_enter Try.func45, Try.ntmps45
  go_wp2_with (go_at_call 54; refine hc.mono ?_; rintro e w' ⟨rfl, hb⟩; have HB := Aside0.mk hb; clear hb)
  go_ret
  exact ⟨rfl, HB.out⟩
end Go.Proofs.Ythcmelchgnekpaa.XLess
