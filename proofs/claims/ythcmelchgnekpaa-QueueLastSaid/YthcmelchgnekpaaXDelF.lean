-- Several texts in one (wip/tools/mergex.py).
import Derived.Test.YthcmelchgnekpaaProg
import Derived.Below
import Derived.Deep.Draws
import Derived.Deep.AppendLies
import Derived.Maps.AppendAt
import Derived.OwnWalk
import Derived.Laws.BytesArg
import Derived.Laws.MakeOwn
import Derived.Laws.OwnMore
import Derived.Deep.OwnRows
import Derived.Tactics
import Derived.Lib.ConvBytes
import Derived.Laws.Slices
import Derived.WalkKit
import Derived.KernelRfl
import Derived.RowKit3
import Derived.Deep.LoopGhost
import Derived.Deep.QuietTactic
import Derived.BigQuiet
import Derived.WideLaws
import Derived.Deep.DeepCutAuto
import Derived.Deep.CutBlock
import Derived.Deep.RegionHeld3
import Derived.Laws.Rows
import Derived.Lib.AppendStr
import Derived.ArgAppend
import Derived.OrdersHeld
import Derived.Laws.BitsLemmas
import Derived.RowKit
import Derived.Test.YthcmelchgnekpaaWWords
import Derived.Test.YthcmelchgnekpaaWLast
import Derived.Test.YthcmelchgnekpaaWTab
import Derived.Test.YthcmelchgnekpaaWFour
import Derived.Test.YthcmelchgnekpaaWQPut
import Derived.Test.YthcmelchgnekpaaWApart
import Derived.Test.YthcmelchgnekpaaWArr
import Derived.Test.YthcmelchgnekpaaWZeros
import Derived.Test.YthcmelchgnekpaaWFoot
import Derived.Test.YthcmelchgnekpaaWKept
import Derived.Test.YthcmelchgnekpaaWShare
import Derived.Test.YthcmelchgnekpaaWN
import Derived.Test.YthcmelchgnekpaaWFootNe
import Derived.Test.YthcmelchgnekpaaWAt
import Derived.Test.YthcmelchgnekpaaWEqStruct
import Derived.Test.YthcmelchgnekpaaWRepsOne
import Derived.Test.YthcmelchgnekpaaWInv
import Derived.Test.YthcmelchgnekpaaWInvWords
import Derived.Test.YthcmelchgnekpaaWGuard
import Derived.Test.YthcmelchgnekpaaWNEv
import Derived.Test.YthcmelchgnekpaaWMore
import Derived.Test.YthcmelchgnekpaaXKinds
import Derived.Lib.Strings
import Derived.Laws.IdiomCopy

/- slices.DeleteFunc of a table's rows of one contact, walked over a row of the call's own: what is left, in place. -/
namespace Go.Proofs.Ythcmelchgnekpaa.XDel
open Go.RowKit Go.Proofs.YthcmelchgnekpaaW.PrintWords Go.Proofs.YthcmelchgnekpaaW.PrintLast Go.Proofs.YthcmelchgnekpaaW.PrintMore Go.Proofs.Ythcmelchgnekpaa.PA
set_option linter.unusedVariables false
set_option linter.unusedSimpArgs false
abbrev Sn := S52
abbrev kS := k52
abbrev is (n : ByteArray) (x : Sn) : Bool := x.f0.toList == n.toList
theorem pred (s : ByteArray) (a b c : Int) (t n : ByteArray) (B3 : Nat) (w : World) (l3 : B3 < w.heap.size) (hn : w.cell? ⟨B3, 0, none⟩ = some (.string n)) :
    Calls Try.prog 44 #[.agg #[.string s, .int .i64 a, .int .i64 b, .int .i64 c, .string t], .pointer (some ⟨B3, 0, none⟩)] w fun e w' => e = .returned (.bool (s.toList == n.toList)) ∧ Below w.heap.size w w' := by
  have hB := below_alloc (Below.refl _ w) (Obj.cells #[.string s, .int .i64 a, .int .i64 b, .int .i64 c, .string t] 52)
  have hn' := (hB.cell (p := ⟨B3, 0, none⟩) l3).trans hn
  have HB := Aside0.mk hB
  clear hn hB
  go_enter Try.func44, Try.ntmps44
  go_wp2
  go_ret
  exact ⟨rfl, HB.out⟩
/-- The first place from i on at which something is so; -1: there is none. -/
def idx {α : Type} (p : α → Bool) : List α → Int → Int
  | [], _ => -1
  | x :: t, i => if p x = true then i else idx p t (i + 1)
theorem idx_no {α : Type} (p : α → Bool) : ∀ (l : List α) (i : Int), 0 ≤ i → (idx p l i = -1 ∧ ∀ x ∈ l, p x = false) ∨ ∃ k : Nat, k < l.length ∧ idx p l i = i + k ∧ (∀ x ∈ l.take k, p x = false) ∧ ∃ h : k < l.length, p l[k] = true
  | [], i, _ => .inl ⟨rfl, fun x hx => by cases hx⟩
  | x :: t, i, h => by
    rw [idx]
    by_cases c : p x = true
    · rw [if_pos c]
      exact .inr ⟨0, by simp, by simp, by simp, by simp, c⟩
    · rw [if_neg c]
      rcases idx_no p t (i + 1) (by omega) with ⟨h1, h2⟩ | ⟨k, h1, h2, h3, h4, h5⟩
      · refine .inl ⟨h1, fun y hy => ?_⟩
        rcases List.mem_cons.1 hy with rfl | hy
        · exact Bool.eq_false_iff.mpr c
        · exact h2 y hy
      · refine .inr ⟨k + 1, by simp; omega, by rw [h2]; simp; omega, fun y hy => ?_, by simp; omega, by simpa using h5⟩
        rw [List.take_succ_cons] at hy
        rcases List.mem_cons.1 hy with rfl | hy
        · exact Bool.eq_false_iff.mpr c
        · exact h3 y hy
set_option maxHeartbeats 8000000 in
set_option maxRecDepth 100000 in
theorem index_func (A : Option Addr) (m c : Nat) (l : List Sn) (n : ByteArray) (B3 : Nat) (w : World) (hm : m = l.length) (hr : Kd.C kS w A m l) (l3 : B3 < w.heap.size) (hn : w.cell? ⟨B3, 0, none⟩ = some (.string n)) :
    Calls Try.prog 53 #[.slice A m c, .func (.func 44) #[] #[.pointer (some ⟨B3, 0, none⟩)]] w fun e w' => e = .returned (.int .i64 (idx (is n) l 0)) ∧ Below w.heap.size w w' := by
  have hmax := Kd.C_max hr
  have HR := Aside0.mk hr
  have HN := Aside0.mk hm
  have HS := Aside0.mk hn
  have HB0 := Aside0.mk (Below.refl w.heap.size w)
  clear hr hm hn
  go_enter Try.func53, Try.ntmps53
  go_wp2
  go_loopw [8] (fun i wr => ∃ k : Nat, k ≤ m ∧ i = .int .i64 k ∧ Aside0 (Below w.heap.size w wr) ∧ Aside0 (idx (is n) l 0 = idx (is n) (l.drop k) k)) (fun i _ => m - (intOf i).toNat)
  case atStart => exact ⟨0, Nat.zero_le _, rfl, HB0, ⟨rfl⟩⟩
  case round =>
    clear HB0
    obtain ⟨k, hk, rfl, HB, HI⟩ := hrel
    by_cases hlt : k < m
    · obtain ⟨ad, hA, h0, h1, h2, h3, h4⟩ := at_T52 (Kd.C_below HR.out HB.out) (k : Int) (by omega) (by omega)
      subst hA
      rw [Int.toNat_natCast] at h0 h1 h2 h3 h4
      have hd : l.drop k = l[k]'(by have := HN.out; omega) :: l.drop (k + 1) := List.drop_eq_getElem_cons (by have := HN.out; omega)
      have hx : rd_T52 l (k : Int) = l[k]'(by have := HN.out; omega) := by
        unfold rd_T52
        rw [Int.toNat_natCast, List.getD_eq_getElem?_getD, List.getElem?_eq_getElem (by have := HN.out; omega)]
        rfl
      rw [← hx] at hd
      have HD := Aside0.mk hd
      clear hx hd
      have HP : Aside0 (∀ b : Bool, is n (rd_T52 l (k : Int)) = b → ((rd_T52 l (k : Int)).f0.toList == n.toList) = b) := ⟨fun b h => h⟩
      have hp2 := pred (rd_T52 l (k : Int)).f0 (rd_T52 l (k : Int)).f1.f0 (rd_T52 l (k : Int)).f1.f1 (rd_T52 l (k : Int)).f1.f2 (rd_T52 l (k : Int)).f1.f3 n B3 wr (Nat.lt_of_lt_of_le l3 HB.out.size) ((HB.out.cell (p := ⟨B3, 0, none⟩) l3).trans HS.out)
      generalize rd_T52 l (k : Int) = x at h0 h1 h2 h3 h4 HD HP hp2
      by_cases hb : is n x = true
      · have HE := Aside0.mk (show idx (is n) l 0 = (k : Int) by rw [HI.out, HD.out, idx, if_pos hb])
        rw [HP.out true hb] at hp2
        clear hb HI HD HP
        go_wp2_with (go_at_call 44; refine hp2.mono ?_; rintro e w1 ⟨rfl, hb⟩; have n0_ := Aside0.mk (below_step HB.out hb); clear HB; have HB := n0_; clear n0_ hb)
        go_ret
        exact ⟨by rw [HE.out]; rfl, HB.out⟩
      · have HE := Aside0.mk (show idx (is n) l 0 = idx (is n) (l.drop (k + 1)) ((k + 1 : Nat) : Int) by rw [HI.out, HD.out, idx, if_neg hb]; rfl)
        rw [HP.out false (Bool.eq_false_iff.mpr hb)] at hp2
        clear hb HI HD HP
        go_wp2_with (go_at_call 44; refine hp2.mono ?_; rintro e w1 ⟨rfl, hb⟩; have n0_ := Aside0.mk (below_step HB.out hb); clear HB; have HB := n0_; clear n0_ hb)
        go_roundw
        case rel => exact ⟨k + 1, by omega, by go_num, HB, HE⟩
        case measure => simp [intOf]; omega
    · obtain rfl : m = k := by omega
      have HE := Aside0.mk (show idx (is n) l 0 = -1 by rw [HI.out, List.drop_eq_nil_of_le (by have := HN.out; omega)]; rfl)
      clear HI
      go_wp2
      go_ret
      exact ⟨by rw [HE.out]; rfl, HB.out⟩
/-- What stands beyond a row's end is written: the row stands. -/
theorem R_beyond {α : Type} {d : Kd α} {e : Nat} {W : World} {base : Nat} {ok : Nat → Prop} {g m cap : Nat} {ys : List α} (h : Kd.R d e W base ok (.slice (some ⟨g, 0, none⟩) m cap) ys) (o : Nat) (seg : List Value) (ho : m * d.sz ≤ o) (hfit : o + seg.length ≤ cap * d.sz) :
    Kd.R d e (W.setCells g o seg) base ok (.slice (some ⟨g, 0, none⟩) m cap) ys ∧ W.grownBy (W.setCells g o seg) (some g) := by
  obtain ⟨s1, s2, s3, s4⟩ := setCells_same g seg o W
  refine ⟨?_, ⟨s1, s2, s3, by rw [s4]; exact Nat.le_refl _, fun k _ hk => setCells_far seg o k (fun he => hk (by rw [he]))⟩⟩
  obtain ⟨hok, inner, ⟨hl, hv⟩, hr⟩ := h
  refine ⟨hok, inner, ⟨hl, ?_⟩, ?_⟩
  · rcases hv with ⟨hv, _⟩ | ⟨g', cap', cur, hv, hb, hh, hnc, hcm, hcs, htk⟩
    · cases hv
    · injection hv with ha hn hc
      injection ha with ha
      injection ha with hg'
      subst hg'; subst hc
      obtain ⟨cur', h3, h4, h5⟩ := setCells_row seg o W cur hh (by omega)
      refine .inr ⟨g, cap, cur', by rw [hn], hb, h3, hnc, hcm, by rw [h4, hcs], ?_⟩
      have hlen : cur.toList.length = cur.size := Array.length_toList
      have hml : ys.length * d.sz ≤ o := by rw [← hn]; exact ho
      rw [h5, List.append_assoc, List.take_append_of_le_length (by rw [List.length_take]; omega), List.take_take, Nat.min_eq_left hml, htk]
  · refine ⟨hr.1, fun j x hx => ?_⟩
    exact Kd.M_step (hr.2 j x hx) (fun k hk _ => setCells_far seg o k (fun he => hk.2 (by rw [he]; simp [Value.ownBlock])))
end Go.Proofs.Ythcmelchgnekpaa.XDel
/- slices.DeleteFunc of a table's rows of one contact, walked over a row of the call's own: what is left, in place. -/
namespace Go.Proofs.Ythcmelchgnekpaa.XDelF
open Go.RowKit Go.Proofs.YthcmelchgnekpaaW.PrintWords Go.Proofs.YthcmelchgnekpaaW.PrintLast Go.Proofs.YthcmelchgnekpaaW.PrintMore Go.Proofs.Ythcmelchgnekpaa.PA Go.Proofs.Ythcmelchgnekpaa.XDel
set_option linter.unusedVariables false
set_option linter.unusedSimpArgs false
abbrev zc : Array Value := #[.string ⟨#[]⟩, .int .i64 0, .int .i64 0, .int .i64 0, .string ⟨#[]⟩]
theorem zero_run (w : World) : (zeroValue 52).run Try.prog w = .ok (.agg zc) w := by kernel_rfl
def zs (n : Nat) : List Value := (Builtin.zeroCells zc n).toList
theorem zs_len (n : Nat) : (zs n).length = n * 5 := by simp [zs, Builtin.zeroCells]
theorem zs_one (n : Nat) : ∀ v ∈ zs n, v.oneCell' = true := by
  intro v hv
  simp only [zs, Builtin.zeroCells, Array.toList_map, List.mem_map, Array.mem_toList_iff, Array.mem_range] at hv
  obtain ⟨i, _, rfl⟩ := hv
  have h5 : i % 5 < 5 := Nat.mod_lt _ (by omega)
  have e : i % 5 = 0 ∨ i % 5 = 1 ∨ i % 5 = 2 ∨ i % 5 = 3 ∨ i % 5 = 4 := by omega
  show (zc[i % 5]!).oneCell' = true
  rcases e with e | e | e | e | e <;> rw [e] <;> rfl
theorem clear_run (W : World) (g o n c : Nat) (ty : TypeId) (hn : 0 < n) (hc : ∀ j, j < n * 5 → (W.cell? ⟨g, o + j, none⟩).isSome = true) (hf : ∀ j, j < n * 5 → W.frozen? ⟨g, o + j, none⟩ = false) :
    (Builtin.clear_ #[25] ty #[.slice (some ⟨g, o, none⟩) n c]).run Try.prog W = .ok (.tuple #[]) (W.setCells g o (zs n)) := by
  have hst := run_storeCells_cells (P := Try.prog) g o (zs n) 0 W (by rw [zs_len]; simpa using hc) (by rw [zs_len]; simpa using hf) (zs_one n)
  simp only [Nat.add_zero] at hst
  obtain ⟨m, rfl⟩ : ∃ m, n = m + 1 := ⟨n - 1, by omega⟩
  unfold zs at hst ⊢
  simp [Builtin.clear_, run_underlying Try.underlying25, zero_run, Value.cells, hst]
theorem cut_tail (g n cap p : Nat) (hp : p < n) (hc : n ≤ cap) (W : World) : (Instr.slice 25 (.slice (some ⟨g, 0, none⟩) n cap) (some (.int .i64 (p : Int))) none none).run Try.prog W = .ok (.slice (some ⟨g, p * 5, none⟩) (n - p) (cap - p)) W := by
  obtain ⟨i, hi, hs⟩ : ∃ i, Try.prog.info? 52 = some i ∧ i.size = 5 := ⟨_, rfl, rfl⟩
  have h := cut_from (P := Try.prog) 25 52 .i64 Try.underlying25 hi 5 hs (some ⟨g, 0, none⟩) n cap (p : Int) (by omega) (by omega) W
  rw [h, Int.toNat_natCast, if_neg (by omega)]
  simp [Addr.add]
  intro h0
  omega
theorem cut_head (g n cap p : Nat) (hp : p ≤ n) (hc : n ≤ cap) (W : World) : (Instr.slice 25 (.slice (some ⟨g, 0, none⟩) n cap) none (some (.int .i64 (p : Int))) none).run Try.prog W = .ok (.slice (some ⟨g, 0, none⟩) p cap) W := by
  obtain ⟨i, hi⟩ : ∃ i, Try.prog.info? 52 = some i := ⟨_, rfl⟩
  have h := cut_to (P := Try.prog) 25 52 .i64 Try.underlying25 hi (some ⟨g, 0, none⟩) n cap (p : Int) (by omega) (by omega) hc W
  rw [h, Int.toNat_natCast]
/-- What holds of the row at each round. -/
structure LI (P : Sn → Bool) (xs : List Sn) (p q : Nat) (ys : List Sn) : Prop where
  len : ys.length = xs.length
  hd : ys.take p = (xs.take q).filter fun x => !P x
  tl : ys.drop q = xs.drop q
variable {P : Sn → Bool} {xs ys : List Sn} {p q : Nat}
theorem LI.start (hp : p < xs.length) (h1 : ∀ x ∈ xs.take p, P x = false) (h2 : P (xs[p]'hp) = true) : LI P xs p (p + 1) xs := by
  refine ⟨rfl, ?_, rfl⟩
  rw [List.take_succ_eq_append_getElem hp, List.filter_append]
  have e1 : (xs.take p).filter (fun x => !P x) = xs.take p := List.filter_eq_self.2 (fun x hx => by simp [h1 x hx])
  rw [e1]
  simp [h2]
theorem LI.at (h : LI P xs p q ys) (hq : q < xs.length) : ys[q]'(by have := h.len; omega) = xs[q] := by
  have h1 : ys.drop q = ys[q]'(by have := h.len; omega) :: ys.drop (q + 1) := List.drop_eq_getElem_cons (by have := h.len; omega)
  have h2 : xs.drop q = xs[q] :: xs.drop (q + 1) := List.drop_eq_getElem_cons hq
  have := h.tl
  rw [h1, h2] at this
  injection this
theorem LI.gone (h : LI P xs p q ys) (hq : q < xs.length) (hP : P xs[q] = true) : LI P xs p (q + 1) ys := by
  refine ⟨h.len, ?_, ?_⟩
  · rw [h.hd, List.take_succ_eq_append_getElem hq, List.filter_append]
    simp [hP]
  · rw [← List.drop_drop, ← List.drop_drop, h.tl]
theorem LI.stay (h : LI P xs p q ys) (hpq : p < q) (hq : q < xs.length) (hP : P xs[q] = false) : LI P xs (p + 1) (q + 1) (ys.set p xs[q]) := by
  refine ⟨by rw [List.length_set]; exact h.len, ?_, ?_⟩
  · have hl := h.len
    rw [List.take_succ_eq_append_getElem (by rw [List.length_set]; omega), List.getElem_set_self, List.take_set_of_le (Nat.le_refl _), h.hd, List.take_succ_eq_append_getElem hq, List.filter_append]
    simp [hP]
  · rw [List.drop_set_of_lt (by omega), ← List.drop_drop, ← List.drop_drop, h.tl]
theorem LI.done (h : LI P xs p xs.length ys) : ys.take p = xs.filter fun x => !P x := by rw [h.hd, List.take_length]
theorem R_block {α : Type} {d : Kd α} {e : Nat} {W : World} {base : Nat} {ok : Nat → Prop} {g m cap : Nat} {ys : List α} (h : Kd.R d e W base ok (.slice (some ⟨g, 0, none⟩) m cap) ys) : base ≤ g ∧ ∃ cur, W.heap[g]? = some (.cells cur e (0, 0)) ∧ cur.size = cap * d.sz := by
  obtain ⟨_, inner, ⟨_, hv⟩, _⟩ := h
  rcases hv with ⟨hv, _⟩ | ⟨g', cap', cur, hv, hb, hh, hnc, hcm, hcs, htk⟩
  · cases hv
  · injection hv with ha hn hc
    injection ha with ha
    injection ha with hg'
    subst hg'; subst hc
    exact ⟨hb, cur, hh, hcs⟩
theorem R_box {α : Type} {d : Kd α} {e : Nat} {W w5 : World} {base : Nat} {ok : Nat → Prop} {v : Value} {ys : List α} (h : Kd.R d e W base ok v ys) (hb : Below W.heap.size W w5) {gb : Nat} (hg : gb = W.heap.size) : Kd.R d e w5 base (fun k => k ≠ gb) v ys :=
  Kd.R_below (Kd.R_mono (Kd.R_bound h) (fun k hk => by have := hk.2.2.1; omega)) hb
abbrev cl (B3 : Nat) : Value := .func (.func 44) #[] #[.pointer (some ⟨B3, 0, none⟩)]
abbrev cells (x : Sn) : List Value := [.string x.f0, .int .i64 x.f1.f0, .int .i64 x.f1.f1, .int .i64 x.f1.f2, .string x.f1.f3]
set_option maxHeartbeats 16000000 in
set_option maxRecDepth 100000 in
theorem delete_func (n : ByteArray) (B3 : Nat) (w W : World) (v : Value) (xs : List Sn) (hB : Below w.heap.size w W) (HO : Kd.R kS 52 W w.heap.size (fun _ => True) v xs) (l3 : B3 < w.heap.size) (hn : w.cell? ⟨B3, 0, none⟩ = some (.string n)) :
    Calls Try.prog 42 #[v, cl B3] W fun e w' => ∃ v', e = .returned v' ∧ Kd.R kS 52 w' w.heap.size (fun _ => True) v' (xs.filter fun x => !is n x) ∧ Below w.heap.size w w' := by
  obtain ⟨A, c, rfl, hc, hC⟩ := Kd.R_reads HO
  have hi := index_func A xs.length c xs n B3 W rfl hC (Nat.lt_of_lt_of_le l3 hB.size) ((hB.cell (p := ⟨B3, 0, none⟩) l3).trans hn)
  have HN := Aside0.mk hn
  have HB := Aside0.mk hB
  have HR := Aside0.mk HO
  rcases idx_no (is n) xs 0 (by omega) with ⟨h1, h2⟩ | ⟨p, hp, h1, h2, hp', h3⟩
  · have HE := Aside0.mk (show (xs.filter fun x => !is n x) = xs from List.filter_eq_self.2 (fun x hx => by simp [h2 x hx]))
    rw [h1] at hi
    clear h1 h2 hC HO hB hn
    go_enter Try.func42, Try.ntmps42
    go_wp2_with (go_at_call 53; refine hi.mono ?_; rintro e w1 ⟨rfl, hb⟩; have n0_ := Aside0.mk (Kd.R_below HR.out hb); have n1_ := Aside0.mk (below_step HB.out hb); clear HR HB; have HR := n0_; have HB := n1_; clear n0_ n1_ hb)
    go_ret
    exact ⟨_, rfl, by rw [HE.out]; exact HR.out, HB.out⟩
  · obtain ⟨g, cap, hv, hbg, _, _⟩ := Kd.R_form HO (by omega)
    injection hv with hA _ hcap
    subst hA
    subst hcap
    rw [show (0 : Int) + (p : Int) = (p : Int) by omega] at h1
    rw [h1] at hi
    have HL := Aside0.mk (LI.start (P := is n) hp h2 h3)
    have HG := Aside0.mk hbg
    obtain ⟨m, hm⟩ : ∃ m, m = xs.length := ⟨_, rfl⟩
    have hmax : m ≤ 9223372036854775807 := by rw [hm]; exact Kd.C_max hC
    rw [← hm] at hi HR hp hc ⊢
    have HM := Aside0.mk hm
    have pne : ((p : Int) == -1) = false := beq_eq_false_iff_ne.mpr (by omega)
    clear h1 h2 h3 hC HO hB hn hbg hm hp'
    go_enter Try.func42, Try.ntmps42
    go_wp2_with (go_at_call 53; refine hi.mono ?_; rintro e w1 ⟨rfl, hb⟩; have n0_ := Aside0.mk (Kd.R_below HR.out hb); have n1_ := Aside0.mk (below_step HB.out hb); clear HR HB; have HR := n0_; have HB := n1_; clear n0_ n1_ hb)
    clear hi
    go_loopw [5, 6] (fun i j wr => ∃ (p q : Nat) (ys : List Sn), p < q ∧ q ≤ m ∧ i = .int .i64 p ∧ j = .int .i64 q ∧ Aside0 (LI (is n) xs p q ys) ∧ Aside0 (Kd.R kS 52 wr w.heap.size (fun _ => True) (.slice (some ⟨g, 0, none⟩) m c) ys) ∧ Aside0 (Below w.heap.size w wr)) (fun _ j _ => m - (intOf j).toNat)
    case atStart => exact ⟨p, p + 1, xs, by omega, by omega, rfl, by go_num, HL, HR, HB⟩
    case round =>
      clear HL HR HB pne hp
      obtain ⟨p, q, ys, hpq, hq, rfl, rfl, HL, HR, HB⟩ := hrel
      by_cases hlt : q < m
      · have hlx : q < xs.length := by rw [← HM.out]; exact hlt
        obtain ⟨x, hx⟩ : ∃ x, x = xs[q] := ⟨_, rfl⟩
        have hyx : ys.getD q z52 = x := by
          rw [List.getD_eq_getElem?_getD, List.getElem?_eq_getElem (by have := HL.out.len; omega), hx, ← HL.out.at hlx]
          rfl
        obtain ⟨cs, hcl, hMx, hcc, hfz⟩ := Kd.R_elem HR.out z52 (q : Int) (by omega) (by omega)
        rw [Int.toNat_natCast] at hMx hcc hfz
        rw [hyx] at hMx
        obtain rfl := k52_openM hMx
        have h0 : wr.cell? ⟨g, q * 5, none⟩ = some (.string x.f0) := hcc 0 _ rfl
        have h1 : wr.cell? ⟨g, q * 5 + 1, none⟩ = some (.int .i64 x.f1.f0) := hcc 1 _ rfl
        have h2 : wr.cell? ⟨g, q * 5 + 2, none⟩ = some (.int .i64 x.f1.f1) := hcc 2 _ rfl
        have h3 : wr.cell? ⟨g, q * 5 + 3, none⟩ = some (.int .i64 x.f1.f2) := hcc 3 _ rfl
        have h4 : wr.cell? ⟨g, q * 5 + 4, none⟩ = some (.string x.f1.f3) := hcc 4 _ rfl
        have HPd := Aside0.mk (fun W l h => pred x.f0 x.f1.f0 x.f1.f1 x.f1.f2 x.f1.f3 n B3 W l h)
        clear hcl hMx hcc hfz hyx
        cases hb : is n x with
        | true =>
          have HE := Aside0.mk (LI.gone HL.out hlx (by rw [← hx]; exact hb))
          rw [show (x.f0.toList == n.toList) = true from hb] at HPd
          clear hb hx HL hlx
          go_wp2_with (first | ((with_reducible refine gate_dst (N := 7) rfl ?_); refine box_event ?hg (N := 7) ?hd (cs := zc) (t := 52) ?hr ?_; (case hd => rfl); (case hg => rfl); (case hr => first | (go_simp; done) | (go_simp; rfl)); intro gb hg w5 hbox hb; have n0_ := Aside0.mk (R_box HR.out hb hg); have n1_ := Aside0.mk (below_step HB.out hb); have n2_ := Aside0.mk hbox; have GE := Aside0.mk (show w.heap.size ≤ gb by rw [hg]; exact HB.out.size); clear HR HB; have HR := n0_; have HB := n1_; have BK := n2_; clear n0_ n1_ n2_; have b0 := (blk_cell BK.out 0).trans rfl; have b1 := (blk_cell BK.out 1).trans rfl; have b2 := (blk_cell BK.out 2).trans rfl; have b3 := (blk_cell BK.out 3).trans rfl; have b4 := (blk_cell BK.out 4).trans rfl; have f0 := blk_frozen BK.out 0; have f1 := blk_frozen BK.out 1; have f2 := blk_frozen BK.out 2; have f3 := blk_frozen BK.out 3; have f4 := blk_frozen BK.out 4; clear hg hb hbox) | ((with_reducible refine gate_store (t := 52) (p := 7) rfl ?_); refine store_event (t := 52) (p := 7) (v := ?vo) (w1 := (((((w5.setCell ⟨gb, 0, none⟩ (.string x.f0)).setCell ⟨gb, 1, none⟩ (.int .i64 x.f1.f0)).setCell ⟨gb, 2, none⟩ (.int .i64 x.f1.f1)).setCell ⟨gb, 3, none⟩ (.int .i64 x.f1.f2)).setCell ⟨gb, 4, none⟩ (.string x.f1.f3))) ?hg ?ho ?hn ?hr ?_; (case ho => rfl); (case hg => rfl); (case hn => rfl); (case hr => first | (go_simp; done) | (go_simp; rfl)); intro w6 hw; have n0_ : Aside0 (Kd.R kS 52 w6 w.heap.size (fun k => k ≠ gb) (.slice (some ⟨g, 0, none⟩) m c) ys) := ⟨by rw [hw]; exact Kd.R_keep HR.out (Sg.k (b := gb)) (fun _ hk => hk)⟩; have n1_ : Aside0 (Below w.heap.size w w6) := ⟨by rw [hw]; exact hF HB.out GE.out⟩; have n2_ : Aside0 (w6.heap[gb]? = some (.cells #[.string x.f0, .int .i64 x.f1.f0, .int .i64 x.f1.f1, .int .i64 x.f1.f2, .string x.f1.f3] 52 (0, 0))) := ⟨by rw [hw]; exact blk_put (blk_put (blk_put (blk_put (blk_put BK.out 0 _ rfl) 1 _ rfl) 2 _ rfl) 3 _ rfl) 4 _ rfl⟩; clear hw HR HB BK b0 b1 b2 b3 b4 f0 f1 f2 f3 f4; have HR := n0_; have HB := n1_; have BK := n2_; clear n0_ n1_ n2_; have b0 := (blk_cell BK.out 0).trans rfl; have b1 := (blk_cell BK.out 1).trans rfl; have b2 := (blk_cell BK.out 2).trans rfl; have b3 := (blk_cell BK.out 3).trans rfl; have b4 := (blk_cell BK.out 4).trans rfl; have hp2 := HPd.out w6 (Nat.lt_of_lt_of_le l3 HB.out.size) ((HB.out.cell (p := ⟨B3, 0, none⟩) l3).trans HN.out)) | (go_at_call 44; refine hp2.mono ?_; rintro e w7 ⟨rfl, hb⟩; have n0_ := Aside0.mk (Kd.R_below HR.out hb); have n1_ := Aside0.mk (below_step HB.out hb); have n2_ := Aside0.mk (blk_below BK.out hb); clear HR HB BK hp2 b0 b1 b2 b3 b4; have HR := n0_; have HB := n1_; have BK := n2_; clear n0_ n1_ n2_ hb; have b0 := (blk_cell BK.out 0).trans rfl; have b1 := (blk_cell BK.out 1).trans rfl; have b2 := (blk_cell BK.out 2).trans rfl; have b3 := (blk_cell BK.out 3).trans rfl; have b4 := (blk_cell BK.out 4).trans rfl; obtain ⟨cp, hcl, _, hcc, _⟩ := Kd.R_elem HR.out z52 (p : Int) (by omega) (by omega); have HC := Aside0.mk hcl; have HCC := Aside0.mk hcc; clear hcl hcc))
          go_roundw
          case rel => exact ⟨p, q + 1, ys, by omega, by omega, rfl, by go_num, HE, ⟨Kd.R_mono HR.out (fun _ _ => trivial)⟩, HB⟩
          case measure => simp [intOf]; omega
        | false =>
          have HE := Aside0.mk (LI.stay HL.out hpq hlx (by rw [← hx]; exact hb))
          rw [← hx] at HE
          rw [show (x.f0.toList == n.toList) = false from hb] at HPd
          clear hb hx HL hlx
          go_wp2_with (first | ((with_reducible refine gate_dst (N := 7) rfl ?_); refine box_event ?hg (N := 7) ?hd (cs := zc) (t := 52) ?hr ?_; (case hd => rfl); (case hg => rfl); (case hr => first | (go_simp; done) | (go_simp; rfl)); intro gb hg w5 hbox hb; have n0_ := Aside0.mk (R_box HR.out hb hg); have n1_ := Aside0.mk (below_step HB.out hb); have n2_ := Aside0.mk hbox; have GE := Aside0.mk (show w.heap.size ≤ gb by rw [hg]; exact HB.out.size); clear HR HB; have HR := n0_; have HB := n1_; have BK := n2_; clear n0_ n1_ n2_; have b0 := (blk_cell BK.out 0).trans rfl; have b1 := (blk_cell BK.out 1).trans rfl; have b2 := (blk_cell BK.out 2).trans rfl; have b3 := (blk_cell BK.out 3).trans rfl; have b4 := (blk_cell BK.out 4).trans rfl; have f0 := blk_frozen BK.out 0; have f1 := blk_frozen BK.out 1; have f2 := blk_frozen BK.out 2; have f3 := blk_frozen BK.out 3; have f4 := blk_frozen BK.out 4; clear hg hb hbox) | ((with_reducible refine gate_store (t := 52) (p := 7) rfl ?_); refine store_event (t := 52) (p := 7) (v := ?vo) (w1 := (((((w5.setCell ⟨gb, 0, none⟩ (.string x.f0)).setCell ⟨gb, 1, none⟩ (.int .i64 x.f1.f0)).setCell ⟨gb, 2, none⟩ (.int .i64 x.f1.f1)).setCell ⟨gb, 3, none⟩ (.int .i64 x.f1.f2)).setCell ⟨gb, 4, none⟩ (.string x.f1.f3))) ?hg ?ho ?hn ?hr ?_; (case ho => rfl); (case hg => rfl); (case hn => rfl); (case hr => first | (go_simp; done) | (go_simp; rfl)); intro w6 hw; have n0_ : Aside0 (Kd.R kS 52 w6 w.heap.size (fun k => k ≠ gb) (.slice (some ⟨g, 0, none⟩) m c) ys) := ⟨by rw [hw]; exact Kd.R_keep HR.out (Sg.k (b := gb)) (fun _ hk => hk)⟩; have n1_ : Aside0 (Below w.heap.size w w6) := ⟨by rw [hw]; exact hF HB.out GE.out⟩; have n2_ : Aside0 (w6.heap[gb]? = some (.cells #[.string x.f0, .int .i64 x.f1.f0, .int .i64 x.f1.f1, .int .i64 x.f1.f2, .string x.f1.f3] 52 (0, 0))) := ⟨by rw [hw]; exact blk_put (blk_put (blk_put (blk_put (blk_put BK.out 0 _ rfl) 1 _ rfl) 2 _ rfl) 3 _ rfl) 4 _ rfl⟩; clear hw HR HB BK b0 b1 b2 b3 b4 f0 f1 f2 f3 f4; have HR := n0_; have HB := n1_; have BK := n2_; clear n0_ n1_ n2_; have b0 := (blk_cell BK.out 0).trans rfl; have b1 := (blk_cell BK.out 1).trans rfl; have b2 := (blk_cell BK.out 2).trans rfl; have b3 := (blk_cell BK.out 3).trans rfl; have b4 := (blk_cell BK.out 4).trans rfl; have hp2 := HPd.out w6 (Nat.lt_of_lt_of_le l3 HB.out.size) ((HB.out.cell (p := ⟨B3, 0, none⟩) l3).trans HN.out)) | (go_at_call 44; refine hp2.mono ?_; rintro e w7 ⟨rfl, hb⟩; have n0_ := Aside0.mk (Kd.R_below HR.out hb); have n1_ := Aside0.mk (below_step HB.out hb); have n2_ := Aside0.mk (blk_below BK.out hb); clear HR HB BK hp2 b0 b1 b2 b3 b4; have HR := n0_; have HB := n1_; have BK := n2_; clear n0_ n1_ n2_ hb; have b0 := (blk_cell BK.out 0).trans rfl; have b1 := (blk_cell BK.out 1).trans rfl; have b2 := (blk_cell BK.out 2).trans rfl; have b3 := (blk_cell BK.out 3).trans rfl; have b4 := (blk_cell BK.out 4).trans rfl; obtain ⟨cp, hcl, _, hcc, _⟩ := Kd.R_elem HR.out z52 (p : Int) (by omega) (by omega); have HC := Aside0.mk hcl; have HCC := Aside0.mk hcc; clear hcl hcc) | ((with_reducible refine gate_store (t := 52) (p := 33) rfl ?_); refine Kd.R_store kS (w0 := w) w.heap.size rfl rfl 52 (.tmp 33) (.tmp 32) rfl 52 (p : Int) 0 ys x _ (cells x) cp (fun k => k ≠ gb) (fun _ => False) rfl ?hoff rfl rfl (by kernel_rfl) ?h1 HR.out ?h0 ?hi HC.out HCC.out ?hj ?hM (fun k hk => hk.elim) HB.out ?_; (case hoff => simp; rfl); (case h1 => intro q hq; simp at hq; rcases hq with rfl | rfl | rfl | rfl | rfl <;> rfl); (case h0 => omega); (case hi => omega); (case hj => exact Nat.le_refl _); (case hM => have := HC.out; rw [List.take_zero, List.nil_append, List.drop_of_length_le (by rw [this]; exact Nat.le_refl _), List.append_nil]; exact k52_mkM _ _ _ x); intro w8 ho hb8 hg8; have n0_ := Aside0.mk (Kd.R_mono ho (ok' := fun _ => True) (fun _ _ => trivial)); have n1_ := Aside0.mk hb8; clear HR HB BK HC HCC ho hb8 hg8 b0 b1 b2 b3 b4; have HR := n0_; have HB := n1_; clear n0_ n1_))
          go_roundw
          case rel => exact ⟨p + 1, q + 1, _, by omega, by omega, by go_num, by go_num, HE, by simpa using HR, HB⟩
          case measure => simp [intOf]; omega
      · obtain rfl : q = m := by omega
        have HE := Aside0.mk (show ys.take p = xs.filter fun x => !is n x from LI.done (by have := HL.out; rwa [HM.out] at this))
        have hl := HL.out.len
        have hcut1 := cut_tail g q c p hpq hc wr
        have hcut2 := fun W => cut_head g q c p (by omega) hc W
        have hT := Kd.R_take HR.out (m := p) (by rw [hl, ← HM.out]; omega)
        obtain ⟨hbg, cur, hcur, hsz⟩ := R_block HR.out
        have hsz' : cur.size = c * 5 := hsz
        have hz := fun ty => clear_run wr g (p * 5) (q - p) (c - p) ty (by omega) (by
          intro j hj
          rw [blk_cell hcur]
          have : p * 5 + j < cur.size := by omega
          simp [this]) (fun j _ => blk_frozen hcur _)
        obtain ⟨hT2, hG⟩ := R_beyond hT (p * 5) (zs (q - p)) (Nat.le_refl _) (by rw [zs_len]; show p * 5 + (q - p) * 5 ≤ c * 5; omega)
        have HB2 := Aside0.mk (pw_below_grown HB.out (some g) HB.out.size hG (fun k e => by injection e with e; omega))
        have HT := Aside0.mk hT2
        generalize wr.setCells g (p * 5) (zs (q - p)) = w2 at hz HB2 HT hG
        clear hT hT2 hcur hsz hsz' hG hl HL HR HB hbg
        rw [HE.out] at HT
        clear HE
        go_wp2
        go_ret
        exact ⟨_, rfl, HT.out, HB2.out⟩
end Go.Proofs.Ythcmelchgnekpaa.XDelF
