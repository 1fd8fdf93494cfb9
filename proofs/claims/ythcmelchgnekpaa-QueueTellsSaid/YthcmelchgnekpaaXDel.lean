/- slices.DeleteFunc of a table's rows of one contact, walked over a row of the call's own: what is left, in place. -/
import Derived.Test.YthcmelchgnekpaaProg
import Derived.Below
import Derived.Deep.Draws
import Derived.Deep.AppendLies
import Derived.Maps.AppendAt
import Derived.OwnWalk
import Derived.Laws.BytesArg
import Derived.Laws.MakeOwn
import Derived.Laws.OwnMore
import Derived.Deep.OwnRows
import Derived.Tactics
import Derived.Lib.ConvBytes
import Derived.Laws.Slices
import Derived.WalkKit
import Derived.KernelRfl
import Derived.RowKit3
import Derived.Deep.LoopGhost
import Derived.Deep.QuietTactic
import Derived.BigQuiet
import Derived.WideLaws
import Derived.Deep.DeepCutAuto
import Derived.Deep.CutBlock
import Derived.Deep.RegionHeld3
import Derived.Laws.Rows
import Derived.Lib.AppendStr
import Derived.ArgAppend
import Derived.OrdersHeld
import Derived.Laws.BitsLemmas
import Derived.RowKit
import Derived.Test.YthcmelchgnekpaaWWords
import Derived.Test.YthcmelchgnekpaaWLast
import Derived.Test.YthcmelchgnekpaaWTab
import Derived.Test.YthcmelchgnekpaaWFour
import Derived.Test.YthcmelchgnekpaaWQPut
import Derived.Test.YthcmelchgnekpaaWApart
import Derived.Test.YthcmelchgnekpaaWArr
import Derived.Test.YthcmelchgnekpaaWZeros
import Derived.Test.YthcmelchgnekpaaWFoot
import Derived.Test.YthcmelchgnekpaaWKept
import Derived.Test.YthcmelchgnekpaaWShare
import Derived.Test.YthcmelchgnekpaaWN
import Derived.Test.YthcmelchgnekpaaWFootNe
import Derived.Test.YthcmelchgnekpaaWAt
import Derived.Test.YthcmelchgnekpaaWEqStruct
import Derived.Test.YthcmelchgnekpaaWRepsOne
import Derived.Test.YthcmelchgnekpaaWInv
import Derived.Test.YthcmelchgnekpaaWInvWords
import Derived.Test.YthcmelchgnekpaaWGuard
import Derived.Test.YthcmelchgnekpaaWNEv
import Derived.Test.YthcmelchgnekpaaWMore
import Derived.Test.YthcmelchgnekpaaXKinds
import Derived.Lib.Strings
import Derived.Laws.IdiomCopy
namespace Go.Proofs.Ythcmelchgnekpaa.XDel
open Go.RowKit Go.Proofs.YthcmelchgnekpaaW.PrintWords Go.Proofs.YthcmelchgnekpaaW.PrintLast Go.Proofs.YthcmelchgnekpaaW.PrintMore Go.Proofs.Ythcmelchgnekpaa.PA
set_option linter.unusedVariables false
set_option linter.unusedSimpArgs false
abbrev Sn := S52
abbrev kS := k52
abbrev is (n : ByteArray) (x : Sn) : Bool := x.f0.toList == n.toList
theorem pred (s : ByteArray) (a b c : Int) (t n : ByteArray) (B3 : Nat) (w : World) (l3 : B3 < w.heap.size) (hn : w.cell? ⟨B3, 0, none⟩ = some (.string n)) :
    Calls Try.prog 44 #[.agg #[.string s, .int .i64 a, .int .i64 b, .int .i64 c, .string t], .pointer (some ⟨B3, 0, none⟩)] w fun e w' => e = .returned (.bool (s.toList == n.toList)) ∧ Below w.heap.size w w' := by
  have hB := below_alloc (Below.refl _ w) (Obj.cells #[.string s, .int .i64 a, .int .i64 b, .int .i64 c, .string t] 52)
  have hn' := (hB.cell (p := ⟨B3, 0, none⟩) l3).trans hn
  have HB := Aside0.mk hB
  clear hn hB
  go_enter Try.func44, Try.ntmps44
  go_wp2
  go_ret
  exact ⟨rfl, HB.out⟩
/-- The first place from i on at which something is so; -1: there is none. -/
def idx {α : Type} (p : α → Bool) : List α → Int → Int
  | [], _ => -1
  | x :: t, i => if p x = true then i else idx p t (i + 1)
theorem idx_no {α : Type} (p : α → Bool) : ∀ (l : List α) (i : Int), 0 ≤ i → (idx p l i = -1 ∧ ∀ x ∈ l, p x = false) ∨ ∃ k : Nat, k < l.length ∧ idx p l i = i + k ∧ (∀ x ∈ l.take k, p x = false) ∧ ∃ h : k < l.length, p l[k] = true
  | [], i, _ => .inl ⟨rfl, fun x hx => by cases hx⟩
  | x :: t, i, h => by
    rw [idx]
    by_cases c : p x = true
    · rw [if_pos c]
      exact .inr ⟨0, by simp, by simp, by simp, by simp, c⟩
    · rw [if_neg c]
      rcases idx_no p t (i + 1) (by omega) with ⟨h1, h2⟩ | ⟨k, h1, h2, h3, h4, h5⟩
      · refine .inl ⟨h1, fun y hy => ?_⟩
        rcases List.mem_cons.1 hy with rfl | hy
        · exact Bool.eq_false_iff.mpr c
        · exact h2 y hy
      · refine .inr ⟨k + 1, by simp; omega, by rw [h2]; simp; omega, fun y hy => ?_, by simp; omega, by simpa using h5⟩
        rw [List.take_succ_cons] at hy
        rcases List.mem_cons.1 hy with rfl | hy
        · exact Bool.eq_false_iff.mpr c
        · exact h3 y hy
set_option maxHeartbeats 8000000 in
set_option maxRecDepth 100000 in
theorem index_func (A : Option Addr) (m c : Nat) (l : List Sn) (n : ByteArray) (B3 : Nat) (w : World) (hm : m = l.length) (hr : Kd.C kS w A m l) (l3 : B3 < w.heap.size) (hn : w.cell? ⟨B3, 0, none⟩ = some (.string n)) :
    Calls Try.prog 53 #[.slice A m c, .func (.func 44) #[] #[.pointer (some ⟨B3, 0, none⟩)]] w fun e w' => e = .returned (.int .i64 (idx (is n) l 0)) ∧ Below w.heap.size w w' := by
  have hmax := Kd.C_max hr
  have HR := Aside0.mk hr
  have HN := Aside0.mk hm
  have HS := Aside0.mk hn
  have HB0 := Aside0.mk (Below.refl w.heap.size w)
  clear hr hm hn
  go_enter Try.func53, Try.ntmps53
  go_wp2
  go_loopw [8] (fun i wr => ∃ k : Nat, k ≤ m ∧ i = .int .i64 k ∧ Aside0 (Below w.heap.size w wr) ∧ Aside0 (idx (is n) l 0 = idx (is n) (l.drop k) k)) (fun i _ => m - (intOf i).toNat)
  case atStart => exact ⟨0, Nat.zero_le _, rfl, HB0, ⟨rfl⟩⟩
  case round =>
    clear HB0
    obtain ⟨k, hk, rfl, HB, HI⟩ := hrel
    by_cases hlt : k < m
    · obtain ⟨ad, hA, h0, h1, h2, h3, h4⟩ := at_T52 (Kd.C_below HR.out HB.out) (k : Int) (by omega) (by omega)
      subst hA
      rw [Int.toNat_natCast] at h0 h1 h2 h3 h4
      have hd : l.drop k = l[k]'(by have := HN.out; omega) :: l.drop (k + 1) := List.drop_eq_getElem_cons (by have := HN.out; omega)
      have hx : rd_T52 l (k : Int) = l[k]'(by have := HN.out; omega) := by
        unfold rd_T52
        rw [Int.toNat_natCast, List.getD_eq_getElem?_getD, List.getElem?_eq_getElem (by have := HN.out; omega)]
        rfl
      rw [← hx] at hd
      have HD := Aside0.mk hd
      clear hx hd
      have HP : Aside0 (∀ b : Bool, is n (rd_T52 l (k : Int)) = b → ((rd_T52 l (k : Int)).f0.toList == n.toList) = b) := ⟨fun b h => h⟩
      have hp2 := pred (rd_T52 l (k : Int)).f0 (rd_T52 l (k : Int)).f1.f0 (rd_T52 l (k : Int)).f1.f1 (rd_T52 l (k : Int)).f1.f2 (rd_T52 l (k : Int)).f1.f3 n B3 wr (Nat.lt_of_lt_of_le l3 HB.out.size) ((HB.out.cell (p := ⟨B3, 0, none⟩) l3).trans HS.out)
      generalize rd_T52 l (k : Int) = x at h0 h1 h2 h3 h4 HD HP hp2
      by_cases hb : is n x = true
      · have HE := Aside0.mk (show idx (is n) l 0 = (k : Int) by rw [HI.out, HD.out, idx, if_pos hb])
        rw [HP.out true hb] at hp2
        clear hb HI HD HP
        go_wp2_with (go_at_call 44; refine hp2.mono ?_; rintro e w1 ⟨rfl, hb⟩; have n0_ := Aside0.mk (below_step HB.out hb); clear HB; have HB := n0_; clear n0_ hb)
        go_ret
        exact ⟨by rw [HE.out]; rfl, HB.out⟩
      · have HE := Aside0.mk (show idx (is n) l 0 = idx (is n) (l.drop (k + 1)) ((k + 1 : Nat) : Int) by rw [HI.out, HD.out, idx, if_neg hb]; rfl)
        rw [HP.out false (Bool.eq_false_iff.mpr hb)] at hp2
        clear hb HI HD HP
        go_wp2_with (go_at_call 44; refine hp2.mono ?_; rintro e w1 ⟨rfl, hb⟩; have n0_ := Aside0.mk (below_step HB.out hb); clear HB; have HB := n0_; clear n0_ hb)
        go_roundw
        case rel => exact ⟨k + 1, by omega, by go_num, HB, HE⟩
        case measure => simp [intOf]; omega
    · obtain rfl : m = k := by omega
      have HE := Aside0.mk (show idx (is n) l 0 = -1 by rw [HI.out, List.drop_eq_nil_of_le (by have := HN.out; omega)]; rfl)
      clear HI
      go_wp2
      go_ret
      exact ⟨by rw [HE.out]; rfl, HB.out⟩
/-- What stands beyond a row's end is written: the row stands. -/
theorem R_beyond {α : Type} {d : Kd α} {e : Nat} {W : World} {base : Nat} {ok : Nat → Prop} {g m cap : Nat} {ys : List α} (h : Kd.R d e W base ok (.slice (some ⟨g, 0, none⟩) m cap) ys) (o : Nat) (seg : List Value) (ho : m * d.sz ≤ o) (hfit : o + seg.length ≤ cap * d.sz) :
    Kd.R d e (W.setCells g o seg) base ok (.slice (some ⟨g, 0, none⟩) m cap) ys ∧ W.grownBy (W.setCells g o seg) (some g) := by
  obtain ⟨s1, s2, s3, s4⟩ := setCells_same g seg o W
  refine ⟨?_, ⟨s1, s2, s3, by rw [s4]; exact Nat.le_refl _, fun k _ hk => setCells_far seg o k (fun he => hk (by rw [he]))⟩⟩
  obtain ⟨hok, inner, ⟨hl, hv⟩, hr⟩ := h
  refine ⟨hok, inner, ⟨hl, ?_⟩, ?_⟩
  · rcases hv with ⟨hv, _⟩ | ⟨g', cap', cur, hv, hb, hh, hnc, hcm, hcs, htk⟩
    · cases hv
    · injection hv with ha hn hc
      injection ha with ha
      injection ha with hg'
      subst hg'; subst hc
      obtain ⟨cur', h3, h4, h5⟩ := setCells_row seg o W cur hh (by omega)
      refine .inr ⟨g, cap, cur', by rw [hn], hb, h3, hnc, hcm, by rw [h4, hcs], ?_⟩
      have hlen : cur.toList.length = cur.size := Array.length_toList
      have hml : ys.length * d.sz ≤ o := by rw [← hn]; exact ho
      rw [h5, List.append_assoc, List.take_append_of_le_length (by rw [List.length_take]; omega), List.take_take, Nat.min_eq_left hml, htk]
  · refine ⟨hr.1, fun j x hx => ?_⟩
    exact Kd.M_step (hr.2 j x hx) (fun k hk _ => setCells_far seg o k (fun he => hk.2 (by rw [he]; simp [Value.ownBlock])))
end Go.Proofs.Ythcmelchgnekpaa.XDel
