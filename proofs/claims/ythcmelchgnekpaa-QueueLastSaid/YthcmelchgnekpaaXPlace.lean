/- queue.place of changes by their contact (slices.IndexFunc, and the function that it is handed), walked: the first place of a name; -1. -/
import Derived.Test.YthcmelchgnekpaaProg
import Derived.Below
import Derived.Deep.Draws
import Derived.Deep.AppendLies
import Derived.Maps.AppendAt
import Derived.OwnWalk
import Derived.Laws.BytesArg
import Derived.Laws.MakeOwn
import Derived.Laws.OwnMore
import Derived.Deep.OwnRows
import Derived.Tactics
import Derived.Lib.ConvBytes
import Derived.Laws.Slices
import Derived.WalkKit
import Derived.KernelRfl
import Derived.RowKit3
import Derived.Deep.LoopGhost
import Derived.Deep.QuietTactic
import Derived.BigQuiet
import Derived.WideLaws
import Derived.Deep.DeepCutAuto
import Derived.Deep.CutBlock
import Derived.Laws.Rows
import Derived.Lib.AppendStr
import Derived.ArgAppend
import Derived.Laws.IdiomCopy
import Derived.OrdersHeld
import Derived.Laws.BitsLemmas
import Derived.RowKit
import Derived.Test.YthcmelchgnekpaaWWords
import Derived.Test.YthcmelchgnekpaaWLast
import Derived.Test.YthcmelchgnekpaaWTab
import Derived.Test.YthcmelchgnekpaaWFour
import Derived.Test.YthcmelchgnekpaaWQPut
import Derived.Test.YthcmelchgnekpaaWApart
import Derived.Test.YthcmelchgnekpaaWArr
import Derived.Test.YthcmelchgnekpaaWZeros
import Derived.Test.YthcmelchgnekpaaWFoot
import Derived.Test.YthcmelchgnekpaaWKept
import Derived.Test.YthcmelchgnekpaaWShare
import Derived.Test.YthcmelchgnekpaaWN
import Derived.Test.YthcmelchgnekpaaWFootNe
import Derived.Test.YthcmelchgnekpaaWAt
import Derived.Test.YthcmelchgnekpaaWEqStruct
import Derived.Test.YthcmelchgnekpaaWRepsOne
import Derived.Test.YthcmelchgnekpaaWInv
import Derived.Test.YthcmelchgnekpaaWInvWords
import Derived.Test.YthcmelchgnekpaaWGuard
import Derived.Test.YthcmelchgnekpaaWNEv
import Derived.Test.YthcmelchgnekpaaWMore
import Derived.Test.YthcmelchgnekpaaXKinds
import Derived.Lib.Strings
import Derived.Deep.RegionHeld3
namespace Go.Proofs.Ythcmelchgnekpaa.XPlace
open Go.RowKit Go.Proofs.YthcmelchgnekpaaW.PrintWords Go.Proofs.YthcmelchgnekpaaW.PrintLast Go.Proofs.YthcmelchgnekpaaW.PrintMore Go.Proofs.Ythcmelchgnekpaa.PA
set_option linter.unusedVariables false
set_option linter.unusedSimpArgs false
abbrev Ch := S33
def cells (x : Ch) : List Value := [.string x.f0, .bool x.f1, .int .i64 x.f2.f0, .int .i64 x.f2.f1, .int .i64 x.f2.f2, .string x.f2.f3]
theorem contact (s : ByteArray) (o : Bool) (a b c : Int) (t : ByteArray) (w : World) :
    Calls Try.prog 35 #[.agg #[.string s, .bool o, .int .i64 a, .int .i64 b, .int .i64 c, .string t]] w fun e w' => e = .returned (.string s) ∧ Below w.heap.size w w' := by
  have HB : ∀ o, Below w.heap.size w (w.alloc o) := fun o => below_alloc (Below.refl _ _) _
  go_enter Try.func35, Try.ntmps35
  go_wp2
  go_ret
  exact ⟨rfl, HB _⟩
structure Pl (q B5 B4 : Nat) (s : ByteArray) (o : Bool) (a b c : Int) (t n : ByteArray) (w0 w : World) : Prop where
  hb : Below w0.heap.size w0 w
  l1 : q < w.heap.size
  l2 : B5 < w.heap.size
  l3 : B4 < w.heap.size
  h0 : w.cell? ⟨q, 0, none⟩ = some (.string s)
  h1 : w.cell? ⟨q, 1, none⟩ = some (.bool o)
  h2 : w.cell? ⟨q, 2, none⟩ = some (.int .i64 a)
  h3 : w.cell? ⟨q, 3, none⟩ = some (.int .i64 b)
  h4 : w.cell? ⟨q, 4, none⟩ = some (.int .i64 c)
  h5 : w.cell? ⟨q, 5, none⟩ = some (.string t)
  hf : w.cell? ⟨B5, 0, none⟩ = some (.func (.func 35) #[] #[])
  hn : w.cell? ⟨B4, 0, none⟩ = some (.string n)
variable {q B5 B4 : Nat} {s : ByteArray} {o : Bool} {a b c : Int} {t n : ByteArray} {w0 w w1 : World}
theorem Pl.drew (h : Pl q B5 B4 s o a b c t n w0 w) : Pl q B5 B4 s o a b c t n w0 w.drew := ⟨below_drew1 h.hb, h.l1, h.l2, h.l3, h.h0, h.h1, h.h2, h.h3, h.h4, h.h5, h.hf, h.hn⟩
theorem Pl.below (h : Pl q B5 B4 s o a b c t n w0 w) (k : Below w.heap.size w w1) : Pl q B5 B4 s o a b c t n w0 w1 :=
  ⟨below_step h.hb k, Nat.lt_of_lt_of_le h.l1 k.size, Nat.lt_of_lt_of_le h.l2 k.size, Nat.lt_of_lt_of_le h.l3 k.size, (k.cell (p := ⟨q, 0, none⟩) h.l1).trans h.h0, (k.cell (p := ⟨q, 1, none⟩) h.l1).trans h.h1, (k.cell (p := ⟨q, 2, none⟩) h.l1).trans h.h2, (k.cell (p := ⟨q, 3, none⟩) h.l1).trans h.h3, (k.cell (p := ⟨q, 4, none⟩) h.l1).trans h.h4, (k.cell (p := ⟨q, 5, none⟩) h.l1).trans h.h5, (k.cell (p := ⟨B5, 0, none⟩) h.l2).trans h.hf, (k.cell (p := ⟨B4, 0, none⟩) h.l3).trans h.hn⟩
theorem Pl.all (h : Pl q B5 B4 s o a b c t n w0 w) : w.cell? ⟨q, 0, none⟩ = some (.string s) ∧ w.cell? ⟨q, 1, none⟩ = some (.bool o) ∧ w.cell? ⟨q, 2, none⟩ = some (.int .i64 a) ∧ w.cell? ⟨q, 3, none⟩ = some (.int .i64 b) ∧ w.cell? ⟨q, 4, none⟩ = some (.int .i64 c) ∧ w.cell? ⟨q, 5, none⟩ = some (.string t) ∧ w.cell? ⟨B5, 0, none⟩ = some (.func (.func 35) #[] #[]) ∧ w.cell? ⟨B4, 0, none⟩ = some (.string n) ∧ Pl q B5 B4 s o a b c t n w0 w := ⟨h.h0, h.h1, h.h2, h.h3, h.h4, h.h5, h.hf, h.hn, h⟩
set_option maxHeartbeats 4000000 in
set_option maxRecDepth 100000 in
theorem closure (s : ByteArray) (o : Bool) (a b c : Int) (t n : ByteArray) (B5 B4 : Nat) (w : World) (l2 : B5 < w.heap.size) (l3 : B4 < w.heap.size) (hf : w.cell? ⟨B5, 0, none⟩ = some (.func (.func 35) #[] #[])) (hn : w.cell? ⟨B4, 0, none⟩ = some (.string n)) :
    Calls Try.prog 51 #[.agg #[.string s, .bool o, .int .i64 a, .int .i64 b, .int .i64 c, .string t], .pointer (some ⟨B5, 0, none⟩), .pointer (some ⟨B4, 0, none⟩)] w fun e w' => e = .returned (.bool (s.toList == n.toList)) ∧ Below w.heap.size w w' := by
  have hP : Pl w.heap.size B5 B4 s o a b c t n w (w.alloc (Obj.cells #[.string s, .bool o, .int .i64 a, .int .i64 b, .int .i64 c, .string t] 33)) := by
    have hB := below_alloc (Below.refl _ w) (Obj.cells #[.string s, .bool o, .int .i64 a, .int .i64 b, .int .i64 c, .string t] 33)
    have hk := blk_new w (Obj.cells #[.string s, .bool o, .int .i64 a, .int .i64 b, .int .i64 c, .string t] 33)
    exact ⟨hB, by simp, by simp; omega, by simp; omega, (blk_cell hk 0).trans rfl, (blk_cell hk 1).trans rfl, (blk_cell hk 2).trans rfl, (blk_cell hk 3).trans rfl, (blk_cell hk 4).trans rfl, (blk_cell hk 5).trans rfl, (hB.cell (p := ⟨B5, 0, none⟩) l2).trans hf, (hB.cell (p := ⟨B4, 0, none⟩) l3).trans hn⟩
  clear hf hn l2 l3
  go_enter Try.func51, Try.ntmps51
  go_wp2
  generalize w.alloc (Obj.cells #[.string s, .bool o, .int .i64 a, .int .i64 b, .int .i64 c, .string t] 33) = W at hP ⊢
  generalize hz : w.heap.size = z at hP ⊢
  have g7 := hP.hn
  clear hz
  go_region_held3 (fun w' => w'.cell? ⟨z, 0, none⟩ = some (.string s) ∧ w'.cell? ⟨z, 1, none⟩ = some (.bool o) ∧ w'.cell? ⟨z, 2, none⟩ = some (.int .i64 a) ∧ w'.cell? ⟨z, 3, none⟩ = some (.int .i64 b) ∧ w'.cell? ⟨z, 4, none⟩ = some (.int .i64 c) ∧ w'.cell? ⟨z, 5, none⟩ = some (.string t) ∧ w'.cell? ⟨B5, 0, none⟩ = some (.func (.func 35) #[] #[]) ∧ w'.cell? ⟨B4, 0, none⟩ = some (.string n) ∧ Pl z B5 B4 s o a b c t n w w') (first | exact Pl.all (by with_reducible assumption) | exact Pl.all (by with_reducible apply Pl.drew; with_reducible assumption)) ((first | (go_at_call 35; refine (contact s o a b c t _).mono ?_; rintro e w' ⟨rfl, hb⟩; have hP' := Pl.below (w0 := w) (q := z) (B5 := B5) (B4 := B4) (s := s) (o := o) (a := a) (b := b) (c := c) (t := t) (n := n) ?side1 hb; (case side1 => first | with_reducible assumption | (with_reducible apply Pl.drew; with_reducible assumption)); clear hb)))
  go_wp2
  all_goals
    go_ret
    exact ⟨rfl, Pl.hb (by with_reducible assumption)⟩
/-- The first place from i on at which something is so; -1: there is none. -/
def idx {α : Type} (p : α → Bool) : List α → Int → Int
  | [], _ => -1
  | x :: t, i => if p x = true then i else idx p t (i + 1)
abbrev enc (x : Ch) : Value := .agg #[.string x.f0, .bool x.f1, .int .i64 x.f2.f0, .int .i64 x.f2.f1, .int .i64 x.f2.f2, .string x.f2.f3]
abbrev is (n : ByteArray) (x : Ch) : Bool := x.f0.toList == n.toList
set_option maxHeartbeats 8000000 in
set_option maxRecDepth 100000 in
theorem index_func (A : Option Addr) (m c : Nat) (l : List Ch) (n : ByteArray) (B5 B4 : Nat) (w : World) (hm : m = l.length) (hr : Kd.C k33 w A m l) (l2 : B5 < w.heap.size) (l3 : B4 < w.heap.size) (hf : w.cell? ⟨B5, 0, none⟩ = some (.func (.func 35) #[] #[])) (hn : w.cell? ⟨B4, 0, none⟩ = some (.string n)) :
    Calls Try.prog 50 #[.slice A m c, .func (.func 51) #[] #[.pointer (some ⟨B5, 0, none⟩), .pointer (some ⟨B4, 0, none⟩)]] w fun e w' => e = .returned (.int .i64 (idx (is n) l 0)) ∧ Below w.heap.size w w' := by
  have hmax := Kd.C_max hr
  have HR := Aside0.mk hr
  have HN := Aside0.mk hm
  have HF := Aside0.mk hf
  have HS := Aside0.mk hn
  have HB0 := Aside0.mk (Below.refl w.heap.size w)
  clear hr hm hf hn
  go_enter Try.func50, Try.ntmps50
  go_wp2
  go_loopw [8] (fun i wr => ∃ k : Nat, k ≤ m ∧ i = .int .i64 k ∧ Aside0 (Below w.heap.size w wr) ∧ Aside0 (idx (is n) l 0 = idx (is n) (l.drop k) k)) (fun i _ => m - (intOf i).toNat)
  case atStart => exact ⟨0, Nat.zero_le _, rfl, HB0, ⟨rfl⟩⟩
  case round =>
    clear HB0
    obtain ⟨k, hk, rfl, HB, HI⟩ := hrel
    by_cases hlt : k < m
    · obtain ⟨ad, hA, h0, h1, h2, h3, h4, h5⟩ := at_T33 (Kd.C_below HR.out HB.out) (k : Int) (by omega) (by omega)
      subst hA
      rw [Int.toNat_natCast] at h0 h1 h2 h3 h4 h5
      have hd : l.drop k = l[k]'(by have := HN.out; omega) :: l.drop (k + 1) := List.drop_eq_getElem_cons (by have := HN.out; omega)
      have hx : rd_T33 l (k : Int) = l[k]'(by have := HN.out; omega) := by
        unfold rd_T33
        rw [Int.toNat_natCast, List.getD_eq_getElem?_getD, List.getElem?_eq_getElem (by have := HN.out; omega)]
        rfl
      rw [← hx] at hd
      have HD := Aside0.mk hd
      clear hx hd
      have hp := fun W => closure (rd_T33 l (k : Int)).f0 (rd_T33 l (k : Int)).f1 (rd_T33 l (k : Int)).f2.f0 (rd_T33 l (k : Int)).f2.f1 (rd_T33 l (k : Int)).f2.f2 (rd_T33 l (k : Int)).f2.f3 n B5 B4 W
      have HP : Aside0 (∀ b : Bool, is n (rd_T33 l (k : Int)) = b → ((rd_T33 l (k : Int)).f0.toList == n.toList) = b) := ⟨fun b h => h⟩
      have hp2 := hp wr (Nat.lt_of_lt_of_le l2 HB.out.size) (Nat.lt_of_lt_of_le l3 HB.out.size) ((HB.out.cell (p := ⟨B5, 0, none⟩) l2).trans HF.out) ((HB.out.cell (p := ⟨B4, 0, none⟩) l3).trans HS.out)
      clear hp
      generalize rd_T33 l (k : Int) = x at h0 h1 h2 h3 h4 h5 HD HP hp2
      by_cases hb : is n x = true
      · have HE := Aside0.mk (show idx (is n) l 0 = (k : Int) by rw [HI.out, HD.out, idx, if_pos hb])
        rw [HP.out true hb] at hp2
        clear hb HI HD HP
        go_wp2_with (go_at_call 51; refine hp2.mono ?_; rintro e w1 ⟨rfl, hb⟩; have n0_ := Aside0.mk (below_step HB.out hb); clear HB; have HB := n0_; clear n0_ hb)
        go_ret
        exact ⟨by rw [HE.out]; rfl, HB.out⟩
      · have HE := Aside0.mk (show idx (is n) l 0 = idx (is n) (l.drop (k + 1)) ((k + 1 : Nat) : Int) by rw [HI.out, HD.out, idx, if_neg hb]; rfl)
        rw [HP.out false (Bool.eq_false_iff.mpr hb)] at hp2
        clear hb HI HD HP
        go_wp2_with (go_at_call 51; refine hp2.mono ?_; rintro e w1 ⟨rfl, hb⟩; have n0_ := Aside0.mk (below_step HB.out hb); clear HB; have HB := n0_; clear n0_ hb)
        go_roundw
        case rel => exact ⟨k + 1, by omega, by go_num, HB, HE⟩
        case measure => simp [intOf]; omega
    · obtain rfl : m = k := by omega
      have HE := Aside0.mk (show idx (is n) l 0 = -1 by rw [HI.out, List.drop_eq_nil_of_le (by have := HN.out; omega)]; rfl)
      clear HI
      go_wp2
      go_ret
      exact ⟨by rw [HE.out]; rfl, HB.out⟩
def queue_place.f (l : List Ch) (n : ByteArray) : Option (Int × Bool) := some (idx (is n) l 0, decide (0 ≤ idx (is n) l 0))
set_option maxHeartbeats 8000000 in
set_option maxRecDepth 100000 in
theorem queue_place.calls (A0 : Option Addr) (c0 : Nat) (l0 : List Ch) (a1 : ByteArray) (r1 : Int) (r2 : Bool) (w : World) (hr0 : Kd.C k33 w A0 l0.length l0) (hc0 : l0.length ≤ c0) (h : queue_place.f l0 a1 = some (r1, r2)) :
    Calls Try.prog 34 #[.slice A0 l0.length c0, .string a1, .func (.func 35) #[] #[]] w fun e w' => e = .returned (.tuple #[.int .i64 r1, .bool r2]) ∧ Below w.heap.size w w' := by
  unfold queue_place.f at h
  replace h := Option.some.inj h
  obtain ⟨rfl, rfl⟩ : idx (is a1) l0 0 = r1 ∧ decide (0 ≤ idx (is a1) l0 0) = r2 := by simpa using h
  clear h
  have hB := below_alloc (below_alloc (Below.refl _ w) (.cells #[.string a1] 9)) (.cells #[.func (.func 35) #[] #[]] 57)
  have hk1 := blk_below (blk_new w (.cells #[.string a1] 9)) (below_alloc (Below.refl _ (w.alloc (.cells #[.string a1] 9))) (.cells #[.func (.func 35) #[] #[]] 57))
  have hk2 := blk_new (w.alloc (.cells #[.string a1] 9)) (.cells #[.func (.func 35) #[] #[]] 57)
  have hz : (w.alloc (.cells #[.string a1] 9)).heap.size = w.heap.size + 1 := by simp
  rw [hz] at hk2
  have hi := index_func A0 l0.length c0 l0 a1 (w.heap.size + 1) w.heap.size _ rfl (Kd.C_below hr0 hB) (by simp) (by simp; omega) ((blk_cell hk2 0).trans rfl) ((blk_cell hk1 0).trans rfl)
  have HB := Aside0.mk hB
  generalize idx (is a1) l0 0 = z at hi ⊢
  clear hr0 hc0 hk1 hk2 hz hB
  go_enter Try.func34, Try.ntmps34
  go_wp2_with (go_at_call 50; refine hi.mono ?_; rintro e w1 ⟨rfl, hb⟩; have n0_ := Aside0.mk (below_step HB.out hb); clear HB; have HB := n0_; clear n0_ hb)
  go_ret2
  exact ⟨rfl, HB.out⟩
end Go.Proofs.Ythcmelchgnekpaa.XPlace
