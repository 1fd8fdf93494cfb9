-- Several texts in one, without what the law does not use (wip/tools/bundle.py).
import Derived.Test.YtjccgdnnnlgeeaaBitesizesbles2

section
-- Written by a program of this session (wip/tools/xprint.py), which drives the kit's print.
namespace Go.Proofs.Ytjccgdnnnlgeeaa.PA
open Go.RowKit Go.Proofs.YtjccgdnnnlgeeaaW.PrintWords Go.Proofs.YtjccgdnnnlgeeaaW.PrintLast Go.Proofs.YtjccgdnnnlgeeaaW.PrintMore Go.Proofs.Ytjccgdnnnlgeeaa.XQuiet
attribute [local go_sem] min2_int min_two   -- for this text's walks alone
set_option linter.unusedVariables false
set_option linter.unusedSimpArgs false

/-! ### digest_May: function 65 -/
def digest_May.l0 : Nat → List (S52) → List (S52) → Int → Int → Option (Bool)
 | 0, _, _, _, _ => none
 | k + 1, x0, x5, x6, x7 => if x7 < x6 then (if 0 ≤ x7 then (if x7 < (x5.length : Int) then ((ident_Is.f ((rd_T52 x5 x7).f0)).bind fun t311 => (if t311 = true then ((value_May.f ((rd_T52 x5 x7).f1.f0) ((rd_T52 x5 x7).f1.f1) ((rd_T52 x5 x7).f1.f2) ((rd_T52 x5 x7).f1.f3)).bind fun t312 => (if t312 = true then (if x7 > 0 then (if 0 ≤ (wrap64 (x7 - 1)) then (if (wrap64 (x7 - 1)) < (x0.length : Int) then ((ident_Less.f ((rd_T52 x0 (wrap64 (x7 - 1))).f0) ((rd_T52 x5 x7).f0)).bind fun t314 => (if t314 = true then (digest_May.l0 k x0 x5 x6 (wrap64 (x7 + 1))) else (some false))) else (none)) else (none)) else (digest_May.l0 k x0 x5 x6 (wrap64 (x7 + 1)))) else (some false))) else (some false))) else (none)) else (none)) else (some (decide ((x0.length : Int) ≤ 32)))
def digest_May.f (k : Nat) (l0 : List (S52)) : Option (Bool) := digest_May.l0 k l0 l0 (l0.length : Int) 0
set_option maxHeartbeats 8000000 in
set_option maxRecDepth 100000 in
theorem digest_May.calls (k : Nat) (A0 : Option Addr) (c0 : Nat) (l0 : List (S52)) (r : Bool) (w : World) (hr0 : Kd.C k52 w A0 l0.length l0) (hc0 : l0.length ≤ c0) (h : digest_May.f k l0 = some r) :
  Calls Try.prog 65 #[.slice A0 l0.length c0] w fun e w' => e = .returned (.bool r) ∧ Below w.heap.size w w' := by
 unfold digest_May.f at h
 have hm63 : (l0.length : Int) ≤ 9223372036854775807 := by have := hr0.2.1; omega
 have HR := Aside0.mk hr0
 have HH := Aside0.mk h
 clear hr0 hc0 h
 go_enter Try.func65, Try.ntmps65
 have HB := Aside0.mk (Below.refl w.heap.size w)
 go_wp2
 go_loopg [7] k (fun g x wr => ∃ i : Nat, x = .int .i64 i ∧ i ≤ l0.length ∧ Aside0 (digest_May.l0 g l0 l0 (l0.length : Int) (i : Int) = some r) ∧ Aside0 (Below w.heap.size w wr))
 case atStart => exact ⟨0, rfl, Nat.zero_le _, HH, HB⟩
 case round =>
  obtain ⟨i, rfl, hi, hh, hb⟩ := hrel
  clear HH HB
  obtain ⟨g, rfl⟩ : ∃ g, gk = g + 1 := by
   cases gk with
   | zero => exact absurd hh.out (by simp [digest_May.l0])
   | succ g => exact ⟨g, rfl⟩
  have h := hh.out
  clear hh
  rw [digest_May.l0] at h
  by_cases hlt : (i : Int) < (l0.length : Int)
  ·rw [if_pos hlt, if_pos (by omega), if_pos hlt] at h
   have hC := Kd.C_below HR.out hb.out
   obtain ⟨ad, he, h0, h1, h2, h3, h4⟩ := at_T52 hC (i : Int) (by omega) (by omega)
   subst he
   rw [Int.toNat_natCast] at h0 h1 h2 h3 h4
   have h0i : (0 : Int) ≤ (i : Int) := by omega
   generalize rd_T52 l0 (i : Int) = x at h h0 h1 h2 h3 h4
   go_upto_region 4 with (fail)
   generalize hg : World.alloc _ _ = w2
   have hb2 : Below wr.heap.size wr w2 := hg ▸ below_alloc (Below.refl _ _) _
   have T4 : w2.heap[wr.heap.size]? = some (.cells #[.string x.f0, .int .i64 x.f1.f0, .int .i64 x.f1.f1, .int .i64 x.f1.f2, .string x.f1.f3] 52 (0, 0)) := hg ▸ heap_alloc_new _ _
   replace hb := Aside0.mk (below_step hb.out hb2)
   replace hC := Kd.C_below hC hb2
   clear h0 h1 h2 h3 h4 hg hb2
   generalize wr.heap.size = p4 at T4 ⊢
   have h0 := (blk_cell T4 0).trans rfl
   have h1 := (blk_cell T4 1).trans rfl
   have h2 := (blk_cell T4 2).trans rfl
   have h3 := (blk_cell T4 3).trans rfl
   have h4 := (blk_cell T4 4).trans rfl
   clear T4
   rcases hI : ident_Is.f x.f0 with _ | b1
   ·rw [hI] at h; exact absurd h (by simp)
   rw [hI] at h
   simp only [Option.bind_some] at h
   have d1 := fun u : Kin w2 => ident_Is.calls x.f0 b1 u.at' hI
   have y0 : ∀ u : Kin w2, u.at'.cell? _ = _ := Kin.cell h0
   have y1 : ∀ u : Kin w2, u.at'.cell? _ = _ := Kin.cell h1
   have y2 : ∀ u : Kin w2, u.at'.cell? _ = _ := Kin.cell h2
   have y3 : ∀ u : Kin w2, u.at'.cell? _ = _ := Kin.cell h3
   have y4 : ∀ u : Kin w2, u.at'.cell? _ = _ := Kin.cell h4
   clear hI
   cases b1 with
   | false =>
    rw [if_neg (by simp)] at h
    obtain rfl := Option.some.inj h
    go_wp2_with fail
    refine region_kin (by kernel_rfl) (by kernel_rfl) ?_
    repeat (go_big_quiet_step ((first | (go_at_call 68; first | exact Kin.call (d1 _) | exact Kin.same (d1 _) | exact Kin.call ((d1 _).mono fun _ _ q => ⟨q.1, q.2.below⟩)))))
    refine wpQuiet_nil ?_
    rintro w6 ⟨⟨_, b6⟩, rfl⟩
    have HX := Aside0.mk (below_step hb.out b6)
    clear hC h0 h1 h2 h3 h4 y0 y1 y2 y3 y4 d1 hb b6
    go_wp2
    go_ret
    exact ⟨rfl, HX.out⟩
   | true =>
    rw [if_pos rfl] at h
    rcases hJ : value_May.f x.f1.f0 x.f1.f1 x.f1.f2 x.f1.f3 with _ | b2
    ·rw [hJ] at h; exact absurd h (by simp)
    rw [hJ] at h
    simp only [Option.bind_some] at h
    have d2 := fun u : Kin w2 => value_May.calls x.f1.f0 x.f1.f1 x.f1.f2 x.f1.f3 b2 u.at' hJ
    clear hJ
    cases b2 with
    | false =>
     rw [if_neg (by simp)] at h
     obtain rfl := Option.some.inj h
     go_wp2_with fail
     refine region_kin (by kernel_rfl) (by kernel_rfl) ?_
     repeat (go_big_quiet_step ((first | (go_at_call 68; first | exact Kin.call (d1 _) | exact Kin.same (d1 _) | exact Kin.call ((d1 _).mono fun _ _ q => ⟨q.1, q.2.below⟩)) | (go_at_call 70; first | exact Kin.call (d2 _) | exact Kin.same (d2 _) | exact Kin.call ((d2 _).mono fun _ _ q => ⟨q.1, q.2.below⟩)))))
     refine wpQuiet_nil ?_
     rintro w6 ⟨⟨_, b6⟩, rfl⟩
     have HX := Aside0.mk (below_step hb.out b6)
     clear hC h0 h1 h2 h3 h4 y0 y1 y2 y3 y4 d1 hb b6
     go_wp2
     go_ret
     exact ⟨rfl, HX.out⟩
    | true =>
     rw [if_pos rfl] at h
     by_cases hp : (i : Int) > 0
     rotate_left
     ·rw [if_neg hp] at h
      have hp' : ¬ (0 : Int) < (i : Int) := hp
      have hpd : decide ((0 : Int) < (i : Int)) = false := decide_eq_false hp'
      have hpn : decide (0 < i) = false := decide_eq_false (by omega)
      clear hp'
      go_wp2_with fail
      refine region_kin (by kernel_rfl) (by kernel_rfl) ?_
      repeat (go_big_quiet_step ((first | (go_at_call 68; first | exact Kin.call (d1 _) | exact Kin.same (d1 _) | exact Kin.call ((d1 _).mono fun _ _ q => ⟨q.1, q.2.below⟩)) | (go_at_call 70; first | exact Kin.call (d2 _) | exact Kin.same (d2 _) | exact Kin.call ((d2 _).mono fun _ _ q => ⟨q.1, q.2.below⟩)))))
      refine wpQuiet_nil ?_
      rintro w6 ⟨⟨_, b6⟩, rfl⟩
      have HX := Aside0.mk (below_step hb.out b6)
      rw [show wrap64 ((i : Int) + 1) = ((i + 1 : Nat) : Int) by unfold wrap64; omega] at h
      have HN := Aside0.mk h
      have hw : IntKind.i64.wrap ((i : Int) + 1) = (i : Int) + 1 := by rw [IntKind.wrap_i64]; omega
      clear hC h0 h1 h2 h3 h4 y0 y1 y2 y3 y4 d1 hb b6 h
      go_wp2
      go_roundg g
      case measure => omega
      case rel => exact ⟨i + 1, by first | rfl | (congr 1), by omega, HN, HX⟩
     ·rw [if_pos hp] at h
      have hw1 : wrap64 ((i : Int) - 1) = ((i - 1 : Nat) : Int) := by unfold wrap64; omega
      have hw2 : IntKind.i64.wrap ((i : Int) - 1) = ((i - 1 : Nat) : Int) := by rw [IntKind.wrap_i64]; omega
      rw [hw1, if_pos (by omega), if_pos (by omega)] at h
      obtain ⟨ad2, he2, j0, _⟩ := at_T52 hC ((i - 1 : Nat) : Int) (by omega) (by omega)
      obtain rfl : ad = ad2 := by injection he2
      rw [Int.toNat_natCast] at j0
      have hp' : (0 : Int) < (i : Int) := hp
      have hpd : decide ((0 : Int) < (i : Int)) = true := decide_eq_true hp'
      have hpn : decide (0 < i) = true := decide_eq_true (by omega)
      have hq0 : (0 : Int) ≤ ((i - 1 : Nat) : Int) := by omega
      have hq1 : ((i - 1 : Nat) : Int) < (l0.length : Int) := by omega
      generalize rd_T52 l0 ((i - 1 : Nat) : Int) = y at h j0
      rcases hK : ident_Less.f y.f0 x.f0 with _ | b3
      ·rw [hK] at h; exact absurd h (by simp)
      rw [hK] at h
      simp only [Option.bind_some] at h
      have d3 := fun u : Kin w2 => ident_Less.calls y.f0 x.f0 b3 u.at' hK
      have y5 : ∀ u : Kin w2, u.at'.cell? _ = _ := Kin.cell j0
      clear hK hp hw1 he2
      cases b3 with
      | false =>
       rw [if_neg (by simp)] at h
       obtain rfl := Option.some.inj h
       go_wp2_with fail
       refine region_kin (by kernel_rfl) (by kernel_rfl) ?_
       repeat (go_big_quiet_step ((first | (go_at_call 68; first | exact Kin.call (d1 _) | exact Kin.same (d1 _) | exact Kin.call ((d1 _).mono fun _ _ q => ⟨q.1, q.2.below⟩)) | (go_at_call 70; first | exact Kin.call (d2 _) | exact Kin.same (d2 _) | exact Kin.call ((d2 _).mono fun _ _ q => ⟨q.1, q.2.below⟩)) | (go_at_call 72; first | exact Kin.call (d3 _) | exact Kin.same (d3 _) | exact Kin.call ((d3 _).mono fun _ _ q => ⟨q.1, q.2.below⟩)))))
       refine wpQuiet_nil ?_
       rintro w6 ⟨⟨_, b6⟩, rfl⟩
       have HX := Aside0.mk (below_step hb.out b6)
       clear hC h0 h1 h2 h3 h4 y0 y1 y2 y3 y4 d1 hb b6
       go_wp2
       go_ret
       exact ⟨rfl, HX.out⟩
      | true =>
       rw [if_pos rfl] at h
       go_wp2_with fail
       refine region_kin (by kernel_rfl) (by kernel_rfl) ?_
       repeat (go_big_quiet_step ((first | (go_at_call 68; first | exact Kin.call (d1 _) | exact Kin.same (d1 _) | exact Kin.call ((d1 _).mono fun _ _ q => ⟨q.1, q.2.below⟩)) | (go_at_call 70; first | exact Kin.call (d2 _) | exact Kin.same (d2 _) | exact Kin.call ((d2 _).mono fun _ _ q => ⟨q.1, q.2.below⟩)) | (go_at_call 72; first | exact Kin.call (d3 _) | exact Kin.same (d3 _) | exact Kin.call ((d3 _).mono fun _ _ q => ⟨q.1, q.2.below⟩)))))
       refine wpQuiet_nil ?_
       rintro w6 ⟨⟨_, b6⟩, rfl⟩
       have HX := Aside0.mk (below_step hb.out b6)
       rw [show wrap64 ((i : Int) + 1) = ((i + 1 : Nat) : Int) by unfold wrap64; omega] at h
       have HN := Aside0.mk h
       have hw : IntKind.i64.wrap ((i : Int) + 1) = (i : Int) + 1 := by rw [IntKind.wrap_i64]; omega
       clear hC h0 h1 h2 h3 h4 y0 y1 y2 y3 y4 d1 hb b6 h
       go_wp2
       go_roundg g
       case measure => omega
       case rel => exact ⟨i + 1, by first | rfl | (congr 1), by omega, HN, HX⟩
  ·rw [if_neg hlt] at h
   obtain rfl := Option.some.inj h
   have hlt' : (l0.length : Int) ≤ (i : Int) := by omega
   have hnd : decide ((i : Int) < (l0.length : Int)) = false := decide_eq_false hlt
   clear h hlt
   go_wp2
   go_ret
   exact ⟨rfl, hb.out⟩
end Go.Proofs.Ytjccgdnnnlgeeaa.PA
end

section
/- Small laws that every plain part wants: wraps, texts by their bytes, rows of a list. -/

namespace Go.Proofs.Ytjccgdnnnlgeeaa.XGen
open Go.RowKit Go.Proofs.YtjccgdnnnlgeeaaW.PrintWords Go.Proofs.YtjccgdnnnlgeeaaW.PrintLast Go.Proofs.YtjccgdnnnlgeeaaW.PrintMore
set_option linter.unusedVariables false
set_option linter.unusedSimpArgs false
theorem wrap_id (n : Int) (h0 : -9223372036854775808 ≤ n) (h1 : n ≤ 9223372036854775807) : wrap64 n = n := by unfold wrap64; omega
theorem wrap_succ (n : Nat) (h : n < 9223372036854775807) : wrap64 ((n : Int) + 1) = ((n + 1 : Nat) : Int) := by unfold wrap64; omega
theorem size_len (s : ByteArray) : s.size = s.data.toList.length := by rw [Array.length_toList]; rfl
theorem ba_ext {a b : ByteArray} (h : a.data.toList = b.data.toList) : a = b := by
 apply ByteArray.ext
 exact Array.toList_inj.1 h
theorem ba_ext' {a b : ByteArray} (h : a.toList = b.toList) : a = b := ba_ext (by rw [← Lib.toList_data, ← Lib.toList_data]; exact h)
theorem toList_inj {a b : ByteArray} : a.toList = b.toList ↔ a = b := ⟨ba_ext', fun h => by rw [h]⟩
theorem drop_get {α : Type} (l : List α) (i : Nat) (h : i < l.length) : l.drop i = l[i] :: l.drop (i + 1) := List.drop_eq_getElem_cons h
theorem getD_lt {α : Type} (l : List α) (z : α) (i : Nat) (h : i < l.length) : l.getD i z = l[i] := by rw [List.getD_eq_getElem?_getD, List.getElem?_eq_getElem h]; rfl
end Go.Proofs.Ytjccgdnnnlgeeaa.XGen
end

section
/- What the references of names, values and tables answer, in plain functions (for seats without queues). Written by wip/tools/mk_ref06.py. -/
namespace Go.Proofs.Ytjccgdnnnlgeeaa.XV17
open Go.RowKit Go.Proofs.Ytjccgdnnnlgeeaa.PA Go.Proofs.YtjccgdnnnlgeeaaW.PrintWords Go.Proofs.YtjccgdnnnlgeeaaW.PrintLast Go.Proofs.Ytjccgdnnnlgeeaa.XGen
open Go.Proofs.Ytjccgdnnnlgeeaa.XIdent (isB okAt)
open Go.Proofs.Ytjccgdnnnlgeeaa.XMay (mayB numsB)
open Go.Proofs.Ytjccgdnnnlgeeaa.XOdd (odd)
open Go.Proofs.Ytjccgdnnnlgeeaa.XLess (lessB)
set_option linter.unusedVariables false
set_option linter.unusedSimpArgs false
theorem refMayL (a0 a1 a2 : Int) (s : ByteArray) (hs : s.size ≤ 1000) : ∀ (d k j : Nat), j + d = s.size → d < k → rollcallref04_May.l0 k (j : Int) a0 a1 a2 s = some (!(((bytesOf s).drop j).any odd)) := by
 intro d
 induction d with
 | zero =>
  intro k j hj hk
  obtain ⟨k, rfl⟩ : ∃ m, k = m + 1 := ⟨k - 1, by omega⟩
  rw [rollcallref04_May.l0, if_neg (by omega), List.drop_eq_nil_of_le (by rw [bytesOf_length]; omega)]
  rfl
 | succ d ih =>
  intro k j hj hk
  obtain ⟨k, rfl⟩ : ∃ m, k = m + 1 := ⟨k - 1, by omega⟩
  have hb : (bytesOf s).drop j = bt s (j : Int) :: (bytesOf s).drop (j + 1) := by
   rw [List.drop_eq_getElem_cons (by rw [bytesOf_length]; omega)]
   congr 1
   unfold bytesOf bt
   rw [List.getElem_map, dif_pos (by rw [Int.toNat_natCast]; omega)]
   rfl
  rw [rollcallref04_May.l0, if_pos (by omega), if_pos (by omega), hb, List.any_cons]
  unfold odd
  by_cases c1 : bt s (j : Int) < 32
  ·rw [if_pos c1]; simp [c1]
  ·rw [if_neg c1]
   by_cases c2 : bt s (j : Int) > 126
   ·rw [if_pos c2]; simp [c2]
   ·rw [if_neg c2, wrap_succ j (by omega), ih k (j + 1) (by omega) (by omega)]
    have e : (decide (bt s (j : Int) < 32) || decide (126 < bt s (j : Int))) = false := by simp; omega
    rw [e]
    rfl
theorem may_off {a0 a1 a2 : Int} {a3 : ByteArray} (h : ¬ (1 ≤ a0 ∧ a0 ≤ 4 ∧ -128 ≤ a1 ∧ a1 ≤ 127 ∧ 0 ≤ a2 ∧ a2 ≤ 1099511627776 ∧ a3.size ≤ 32)) : mayB a0 a1 a2 a3 = false := by
 unfold mayB
 rw [if_neg (show ¬ numsB a0 a1 a2 a3 from h)]
theorem may_on {a0 a1 a2 : Int} {a3 : ByteArray} (h : 1 ≤ a0 ∧ a0 ≤ 4 ∧ -128 ≤ a1 ∧ a1 ≤ 127 ∧ 0 ≤ a2 ∧ a2 ≤ 1099511627776 ∧ a3.size ≤ 32) : mayB a0 a1 a2 a3 = !((bytesOf a3).any odd) := by
 unfold mayB
 rw [if_pos (show numsB a0 a1 a2 a3 from h)]
theorem refMay_f (k : Nat) (a0 a1 a2 : Int) (a3 : ByteArray) (hk : 40 ≤ k) : rollcallref04_May.f k a0 a1 a2 a3 = some (mayB a0 a1 a2 a3) := by
 obtain ⟨k, rfl⟩ : ∃ m, k = m + 1 := ⟨k - 1, by omega⟩
 unfold rollcallref04_May.f
 have ht : rollcallref04_May.j0 (k + 1) true a0 a1 a2 a3 = some false := by rw [rollcallref04_May.j0, if_pos rfl]
 by_cases c : 1 ≤ a0 ∧ a0 ≤ 4 ∧ -128 ≤ a1 ∧ a1 ≤ 127 ∧ 0 ≤ a2 ∧ a2 ≤ 1099511627776 ∧ a3.size ≤ 32
 ·rw [may_on c, if_neg (by omega), if_neg (by omega), if_neg (by omega), if_neg (by omega), if_neg (by omega), if_neg (by omega), rollcallref04_May.j0, if_neg (by simp; omega)]
  exact refMayL a0 a1 a2 a3 (by omega) a3.size k 0 (by omega) (by omega)
 ·rw [may_off c, ht]
  by_cases h1 : a0 < 1
  ·rw [if_pos h1]
  rw [if_neg h1]
  by_cases h2 : a0 > 4
  ·rw [if_pos h2]
  rw [if_neg h2]
  by_cases h3 : a1 < -128
  ·rw [if_pos h3]
  rw [if_neg h3]
  by_cases h4 : a1 > 127
  ·rw [if_pos h4]
  rw [if_neg h4]
  by_cases h5 : a2 < 0
  ·rw [if_pos h5]
  rw [if_neg h5]
  by_cases h6 : a2 > 1099511627776
  ·rw [if_pos h6]
  rw [if_neg h6]
  have e : decide ((a3.size : Int) > 32) = true := by simp; omega
  rw [e, ht]
def okR (s : ByteArray) (j : Nat) : Prop := (97 ≤ bt s j ∧ bt s j ≤ 122) ∨ (48 ≤ bt s j ∧ bt s j ≤ 57) ∨ bt s j = 45
instance (s : ByteArray) (j : Nat) : Decidable (okR s j) := by unfold okR; infer_instance
theorem refIsL (s : ByteArray) (hs : s.size ≤ 1000) : ∀ (d k j : Nat), j + d = s.size → d < k → rollcallref03_Is.l0 k s (j : Int) = some ((List.range' j d).all fun i => decide (okR s i)) := by
 intro d
 induction d with
 | zero =>
  intro k j hj hk
  obtain ⟨k, rfl⟩ : ∃ m, k = m + 1 := ⟨k - 1, by omega⟩
  rw [rollcallref03_Is.l0, if_neg (by omega)]
  rfl
 | succ d ih =>
  intro k j hj hk
  obtain ⟨k, rfl⟩ : ∃ m, k = m + 1 := ⟨k - 1, by omega⟩
  rw [rollcallref03_Is.l0, if_pos (by omega), if_pos (by omega), wrap_succ j (by omega), ih k (j + 1) (by omega) (by omega), List.range'_succ, List.all_cons]
  by_cases c : okR s j
  ·have e : decide (okR s j) = true := by simp [c]
   rw [e, Bool.true_and]
   unfold okR at c
   repeat' split
   all_goals first | rfl | (exfalso; omega)
  ·have e : decide (okR s j) = false := by simp [c]
   rw [e, Bool.false_and]
   unfold okR at c
   repeat' split
   all_goals first | rfl | (exfalso; omega)
theorem refIs_f (k : Nat) (s : ByteArray) (hk : 30 ≤ k) : rollcallref03_Is.f k s = some (isB s) := by
 obtain ⟨k, rfl⟩ : ∃ m, k = m + 1 := ⟨k - 1, by omega⟩
 unfold rollcallref03_Is.f isB
 have ht : rollcallref03_Is.j0 (k + 1) s true = some false := by rw [rollcallref03_Is.j0, if_pos rfl]
 by_cases h1 : (s.size : Int) < 1
 ·rw [if_pos h1, ht]
  have : decide (0 < s.size ∧ s.size ≤ 16) = false := by simp; omega
  rw [this, Bool.false_and]
 rw [if_neg h1]
 by_cases h2 : (s.size : Int) > 16
 ·rw [if_pos h2, ht]
  have : decide (0 < s.size ∧ s.size ≤ 16) = false := by simp; omega
  rw [this, Bool.false_and]
 rw [if_neg h2, if_pos (by omega)]
 have e1 : decide (0 < s.size ∧ s.size ≤ 16) = true := by simp; omega
 rw [e1, Bool.true_and]
 have e0 : ∀ b : Bool, b = decide (okAt s 0) → (List.range s.size).all (fun j => decide (okAt s j)) = (b && (List.range' 0 s.size).all fun i => decide (okR s i)) := by
  intro b hb
  rw [hb]
  obtain ⟨m, hm⟩ : ∃ m, s.size = m + 1 := ⟨s.size - 1, by omega⟩
  rw [hm, List.range_eq_range', List.range'_succ, List.all_cons, List.all_cons]
  have e2 : (List.range' (0 + 1) m).all (fun j => decide (okAt s j)) = (List.range' (0 + 1) m).all (fun i => decide (okR s i)) := by
   rw [Bool.eq_iff_iff, List.all_eq_true, List.all_eq_true]
   constructor
   ·intro h i hi
    have := h i hi
    have hi' := (List.mem_range'_1.1 hi).1
    simp only [decide_eq_true_eq] at this ⊢
    unfold okAt at this
    unfold okR
    omega
   ·intro h i hi
    have := h i hi
    have hi' := (List.mem_range'_1.1 hi).1
    simp only [decide_eq_true_eq] at this ⊢
    unfold okR at this
    unfold okAt
    omega
  rw [e2]
  by_cases c : okAt s 0
  ·have : okR s 0 := by unfold okAt at c; unfold okR; omega
   simp [c, this]
  ·simp [c]
 by_cases h3 : bt s 0 < 97
 ·rw [if_pos h3, ht, e0 false (by unfold okAt; simp; omega)]
  rfl
 rw [if_neg h3]
 by_cases h4 : bt s 0 > 122
 ·have e : decide (bt s 0 > 122) = true := by simp; omega
  rw [e, ht, e0 false (by unfold okAt; simp; omega)]
  rfl
 ·have e : decide (bt s 0 > 122) = false := by simp; omega
  rw [e, rollcallref03_Is.j0, if_neg (by simp), e0 true (by unfold okAt; simp; omega), Bool.true_and]
  exact refIsL s (by omega) s.size k 0 (by omega) (by omega)
abbrev Se := S52
theorem less_bytes : ∀ a b : List UInt8, Op.bytesLess a b = decide (Lib.compareBytes a b < 0)
 | [], [] => rfl
 | [], _ :: _ => rfl
 | _ :: _, [] => rfl
 | x :: a, y :: b => by
  rw [Op.bytesLess, Lib.compareBytes]
  by_cases c : x < y
  ·simp [c]
  ·rw [if_neg c]
   by_cases d : y < x
   ·rw [if_pos d]
    have hne : ¬ x = y := fun e => by subst e; exact c d
    simp [c, hne]
   ·rw [if_neg d]
    have he : x = y := by
     have h1 : ¬ x.toNat < y.toNat := fun h => c h
     have h2 : ¬ y.toNat < x.toNat := fun h => d h
     exact UInt8.toNat_inj.1 (by omega)
    subst he
    simp [less_bytes a b]
theorem refLess_b (a b : ByteArray) : rollcallref03_Less.f a b = some (lessB a b) := by
 unfold rollcallref03_Less.f lessB XLess.ordI XLess.orI XLess.cmpI XLess.byBytes
 by_cases c : (a.size : Int) < (b.size : Int)
 ·rw [if_pos c, if_pos c]; rfl
 ·rw [if_neg c, if_neg c]
  by_cases d : (a.size : Int) = (b.size : Int)
  ·rw [if_pos d, if_neg (by omega), less_bytes, Lib.toList_data, Lib.toList_data]
  ·rw [if_neg d, if_pos (by omega), if_pos (show (a.size : Int) > (b.size : Int) by omega)]; rfl
theorem rdS_at (l : List Se) (j : Nat) (h : j < l.length) : rd_T52 l (j : Int) = l[j] := by
 unfold rd_T52
 rw [Int.toNat_natCast, getD_lt l _ j h]
theorem fewSL (l : List Se) (hl : l.length ≤ 1000000) : ∀ (d k j : Nat), j + d = l.length → d < k → ∃ b, rollcallref05_Few.l0 k l (j : Int) = some b := by
 intro d
 induction d with
 | zero =>
  intro k j hj hk
  obtain ⟨k, rfl⟩ : ∃ m, k = m + 1 := ⟨k - 1, by omega⟩
  rw [rollcallref05_Few.l0, if_neg (by omega)]
  exact ⟨_, rfl⟩
 | succ d ih =>
  intro k j hj hk
  obtain ⟨k, rfl⟩ : ∃ m, k = m + 1 := ⟨k - 1, by omega⟩
  rw [rollcallref05_Few.l0, if_pos (by omega), if_pos (by omega), wrap_succ j (by omega)]
  obtain ⟨b, hb⟩ := ih k (j + 1) (by omega) (by omega)
  split
  ·exact ⟨_, rfl⟩
  ·split
   ·exact ⟨_, rfl⟩
   ·exact ⟨b, hb⟩
theorem fewS_f (k : Nat) (l : List Se) (hk : 60 ≤ k) : ∃ q, rollcallref05_Few.f k l = some q ∧ (q = true → l.length ≤ 40) := by
 unfold rollcallref05_Few.f
 by_cases c : (l.length : Int) > 40
 ·rw [if_pos c]; exact ⟨_, rfl, fun h => by cases h⟩
 ·rw [if_neg c]
  obtain ⟨b, hb⟩ := fewSL l (by omega) l.length k 0 (by omega) (by omega)
  exact ⟨b, hb, fun _ => by omega⟩
theorem wrap_pred (j : Nat) (h : 0 < j) (h2 : j < 1000000000) : wrap64 ((j : Int) - 1) = ((j - 1 : Nat) : Int) := by
 rw [show ((j : Int) - 1) = ((j - 1 : Nat) : Int) by omega]
 unfold wrap64; omega
theorem bl_irr : ∀ a : List UInt8, Op.bytesLess a a = false
 | [] => rfl
 | x :: a => by rw [Op.bytesLess]; simp [bl_irr a]
theorem bl_trans : ∀ a b c : List UInt8, Op.bytesLess a b = true → Op.bytesLess b c = true → Op.bytesLess a c = true
 | [], [], _, h, _ => by simp [Op.bytesLess] at h
 | _ :: _, [], _, h, _ => by simp [Op.bytesLess] at h
 | [], _ :: _, [], _, h => by simp [Op.bytesLess] at h
 | _ :: _, _ :: _, [], _, h => by simp [Op.bytesLess] at h
 | [], _ :: _, _ :: _, _, _ => by simp [Op.bytesLess]
 | x :: a, y :: b, z :: c, h, g => by
  rw [Op.bytesLess] at h g ⊢
  simp only [Bool.or_eq_true, Bool.and_eq_true, decide_eq_true_eq, beq_iff_eq] at h g ⊢
  have ih := bl_trans a b c
  rcases h with h | ⟨h, h'⟩ <;> rcases g with g | ⟨g, g'⟩
  ·exact Or.inl (UInt8.lt_trans h g)
  ·subst g; exact Or.inl h
  ·subst h; exact Or.inl g
  ·subst h; subst g; exact Or.inr ⟨rfl, ih h' g'⟩
theorem less_iff (a b : ByteArray) : lessB a b = true ↔ a.size < b.size ∨ (a.size = b.size ∧ Op.bytesLess a.data.toList b.data.toList = true) := by
 unfold lessB XLess.ordI XLess.orI XLess.cmpI XLess.byBytes
 rw [less_bytes]
 by_cases c : (a.size : Int) < (b.size : Int)
 ·rw [if_pos c]; simp; omega
 ·rw [if_neg c]
  by_cases d : (a.size : Int) = (b.size : Int)
  ·rw [if_neg (by omega)]; simp; omega
  ·rw [if_pos (by omega)]; simp; omega
theorem lessB_trans {a b c : ByteArray} (h : lessB a b = true) (g : lessB b c = true) : lessB a c = true := by
 rw [less_iff] at *
 rcases h with h | ⟨h, h'⟩ <;> rcases g with g | ⟨g, g'⟩
 ·exact Or.inl (by omega)
 ·exact Or.inl (by omega)
 ·exact Or.inl (by omega)
 ·exact Or.inr ⟨by omega, bl_trans _ _ _ h' g'⟩
def Srt (t : List Se) : Prop := t.Pairwise fun x y => lessB x.f0 y.f0 = true
theorem srt_of (t : List Se) (h : ∀ (i : Nat) (hi : i < t.length), 0 < i → lessB (t[i - 1]'(by omega)).f0 t[i].f0 = true) : Srt t := by
 refine List.pairwise_iff_getElem.2 fun i j hi hj hij => ?_
 induction j with
 | zero => omega
 | succ j ih =>
  have h1 := h (j + 1) hj (by omega)
  by_cases e : i = j
  ·subst e; exact h1
  ·exact lessB_trans (ih (by omega) (by omega)) h1
theorem may_f (a0 a1 a2 : Int) (a3 : ByteArray) : value_May.f a0 a1 a2 a3 = some (mayB a0 a1 a2 a3) := rfl
def rowOk (x : Se) : Bool := isB x.f0 && mayB x.f1.f0 x.f1.f1 x.f1.f2 x.f1.f3
def nthS (t : List Se) (j : Nat) : Se := t.getD j z52
theorem nthS_get (t : List Se) (j : Nat) (h : j < t.length) : nthS t j = t[j] := getD_lt t _ j h
def allT (t : List Se) : Nat → Nat → Bool
 | 0, _ => true
 | d + 1, j => rowOk (nthS t j) && ((decide (j = 0) || lessB (nthS t (j - 1)).f0 (nthS t j).f0) && allT t d (j + 1))
def mayT (t : List Se) : Bool := decide (t.length ≤ 32) && allT t t.length 0
theorem refMayTL (t : List Se) (ht : t.length ≤ 1000) : ∀ (d k j : Nat), j + d = t.length → d + 60 < k → rollcallref05_May.l0 k t (j : Int) = some (allT t d j) := by
 intro d
 induction d with
 | zero =>
  intro k j hj hk
  obtain ⟨k, rfl⟩ : ∃ m, k = m + 1 := ⟨k - 1, by omega⟩
  rw [rollcallref05_May.l0, if_neg (by omega)]; rfl
 | succ d ih =>
  intro k j hj hk
  obtain ⟨k, rfl⟩ : ∃ m, k = m + 1 := ⟨k - 1, by omega⟩
  rw [rollcallref05_May.l0, if_pos (by omega), if_pos (by omega), rdS_at t j (by omega), refIs_f k _ (by omega), refMay_f k _ _ _ _ (by omega), allT, nthS_get t j (by omega), rowOk]
  simp only [Option.bind_some]
  have hb := ih k (j + 1) (by omega) (by omega)
  cases isB t[j].f0 with
  | false => simp
  | true =>
   cases mayB t[j].f1.f0 t[j].f1.f1 t[j].f1.f2 t[j].f1.f3 with
   | false => simp
   | true =>
    rw [if_pos rfl, if_pos rfl]
    by_cases c : (j : Int) > 0
    ·rw [if_pos c, wrap_pred j (by omega) (by omega), if_pos (by omega), if_pos (by omega), rdS_at t (j - 1) (by omega), refLess_b, nthS_get t (j - 1) (by omega), decide_eq_false (show ¬ j = 0 by omega)]
     simp only [Option.bind_some]
     cases lessB (t[j - 1]'(by omega)).f0 t[j].f0 with
     | false => simp
     | true => rw [if_pos rfl, wrap_succ j (by omega), hb]; simp
    ·rw [if_neg c, wrap_succ j (by omega), hb, decide_eq_true (show j = 0 by omega)]; simp
theorem refMayT_b (k : Nat) (t : List Se) (hk : 200 ≤ k) : rollcallref05_May.f k t = some (mayT t) := by
 unfold rollcallref05_May.f mayT
 by_cases c : (t.length : Int) > 32
 ·rw [if_pos c, decide_eq_false (by omega)]; rfl
 ·rw [if_neg c, show (0 : Int) = ((0 : Nat) : Int) from rfl, refMayTL t (by omega) t.length k 0 (by omega) (by omega), decide_eq_true (by omega)]; rfl
theorem digMayTL (t : List Se) (ht : t.length ≤ 1000) (hs : ∀ x ∈ t, x.f0.size ≤ 9223372036854775807) : ∀ (d k j : Nat), j + d = t.length → d < k → digest_May.l0 k t t (t.length : Int) (j : Int) = some (allT t d j && decide (t.length ≤ 32)) := by
 intro d
 induction d with
 | zero =>
  intro k j hj hk
  obtain ⟨k, rfl⟩ : ∃ m, k = m + 1 := ⟨k - 1, by omega⟩
  rw [digest_May.l0, if_neg (by omega), allT]
  simp only [Bool.true_and, Option.some.injEq, decide_eq_decide]
  omega
 | succ d ih =>
  intro k j hj hk
  obtain ⟨k, rfl⟩ : ∃ m, k = m + 1 := ⟨k - 1, by omega⟩
  have hI : XIdent.ident_Is.f t[j].f0 = some (isB t[j].f0) := by unfold XIdent.ident_Is.f; rw [if_pos (hs _ (List.getElem_mem _))]
  rw [digest_May.l0, if_pos (by omega), if_pos (by omega), if_pos (by omega), rdS_at t j (by omega), show ident_Is.f t[j].f0 = some (isB t[j].f0) from hI, may_f, allT, nthS_get t j (by omega), rowOk]
  simp only [Option.bind_some]
  have hb := ih k (j + 1) (by omega) (by omega)
  cases isB t[j].f0 with
  | false => simp
  | true =>
   cases mayB t[j].f1.f0 t[j].f1.f1 t[j].f1.f2 t[j].f1.f3 with
   | false => simp
   | true =>
    rw [if_pos rfl, if_pos rfl]
    by_cases c : (j : Int) > 0
    ·rw [if_pos c, wrap_pred j (by omega) (by omega), if_pos (by omega), if_pos (by omega), rdS_at t (j - 1) (by omega), nthS_get t (j - 1) (by omega), decide_eq_false (show ¬ j = 0 by omega)]
     have hL : XLess.ident_Less.f (t[j - 1]'(by omega)).f0 t[j].f0 = some (lessB (t[j - 1]'(by omega)).f0 t[j].f0) := rfl
     rw [show ident_Less.f (t[j - 1]'(by omega)).f0 t[j].f0 = some (lessB (t[j - 1]'(by omega)).f0 t[j].f0) from hL]
     simp only [Option.bind_some]
     cases lessB (t[j - 1]'(by omega)).f0 t[j].f0 with
     | false => simp
     | true => rw [if_pos rfl, wrap_succ j (by omega), hb]; simp
    ·rw [if_neg c, wrap_succ j (by omega), hb, decide_eq_true (show j = 0 by omega)]; simp
theorem digMayT_b (k : Nat) (t : List Se) (ht : t.length ≤ 1000) (hs : ∀ x ∈ t, x.f0.size ≤ 9223372036854775807) (hk : t.length < k) : digest_May.f k t = some (mayT t) := by
 unfold digest_May.f mayT
 have := digMayTL t ht hs t.length k 0 (by omega) hk
 rw [show ((0 : Nat) : Int) = 0 from rfl] at this
 rw [this, Bool.and_comm]
theorem allT_iff (t : List Se) : ∀ (d j : Nat), j + d = t.length → (allT t d j = true ↔ ∀ (i : Nat) (hi : i < t.length), j ≤ i → rowOk t[i] = true ∧ (0 < i → lessB (t[i - 1]'(by omega)).f0 t[i].f0 = true)) := by
 intro d
 induction d with
 | zero => intro j hj; exact ⟨fun _ i hi hji => by omega, fun _ => rfl⟩
 | succ d ih =>
  intro j hj
  rw [allT, Bool.and_eq_true, Bool.and_eq_true, ih (j + 1) (by omega), nthS_get t j (by omega)]
  constructor
  ·rintro ⟨h1, h2, h3⟩ i hi hji
   by_cases e : i = j
   ·subst e
    refine ⟨h1, fun h0 => ?_⟩
    rw [nthS_get t (i - 1) (by omega)] at h2
    rcases Bool.or_eq_true _ _ ▸ h2 with h | h
    ·have := of_decide_eq_true h; omega
    ·exact h
   ·exact h3 i hi (by omega)
  ·intro h
   refine ⟨(h j (by omega) (by omega)).1, ?_, fun i hi hji => h i hi (by omega)⟩
   by_cases e : j = 0
   ·rw [decide_eq_true e]; rfl
   ·rw [nthS_get t (j - 1) (by omega), (h j (by omega) (by omega)).2 (by omega)]; simp
theorem mayT_iff (t : List Se) : mayT t = true ↔ t.length ≤ 32 ∧ (∀ x ∈ t, rowOk x = true) ∧ Srt t := by
 unfold mayT
 rw [Bool.and_eq_true, decide_eq_true_iff, allT_iff t t.length 0 (by omega)]
 constructor
 ·rintro ⟨h1, h2⟩
  refine ⟨h1, fun x hx => ?_, srt_of t fun i hi h0 => (h2 i hi (by omega)).2 h0⟩
  obtain ⟨i, hi, rfl⟩ := List.getElem_of_mem hx
  exact (h2 i hi (by omega)).1
 ·rintro ⟨h1, h2, h3⟩
  exact ⟨h1, fun i hi _ => ⟨h2 _ (List.getElem_mem hi), fun h0 => List.pairwise_iff_getElem.1 h3 (i - 1) i (by omega) hi (by omega)⟩⟩
end Go.Proofs.Ytjccgdnnnlgeeaa.XV17
end

section
/- Numbers, names and presences as bytes, in plain functions: what the printed functions that write them answer. -/
namespace Go.Proofs.Ytjccgdnnnlgeeaa.XPut
open Go.RowKit Go.Proofs.YtjccgdnnnlgeeaaW.PrintWords Go.Proofs.YtjccgdnnnlgeeaaW.PrintLast Go.Proofs.YtjccgdnnnlgeeaaW.PrintMore Go.Proofs.Ytjccgdnnnlgeeaa.PA Go.Proofs.Ytjccgdnnnlgeeaa.XVar Go.Proofs.Ytjccgdnnnlgeeaa.XBytes
open Go.Proofs.Ytjccgdnnnlgeeaa.XMay (mayB numsB)
open Go.Proofs.Ytjccgdnnnlgeeaa.XIdent (isB okAt)
open Go.Proofs.Ytjccgdnnnlgeeaa.XOdd (odd)
open Go.Proofs.Ytjccgdnnnlgeeaa.XV17 (refMay_f refIs_f)
set_option linter.unusedVariables false
set_option linter.unusedSimpArgs false
theorem putL : ∀ (d k : Nat) (n : Int) (xs : List Int), 0 ≤ n → n < pw (d + 1) → d < k → xs.length + d + 1 < 140737488355328 → varint_Put.l0 k n xs = some (strOfNums (xs ++ digs (d + 1) n))
 | d, 0, n, xs, _, _, hk, _ => by omega
 | d, k + 1, n, xs, h0, h1, hk, hl => by
  rw [varint_Put.l0, digs]
  by_cases c : n ≥ 128
  ·rw [if_pos c, if_pos (by omega), if_pos c, or128]
   cases d with
   | zero =>
    simp only [pw] at h1
    omega
   | succ d =>
    rw [putL d k (n / 128) _ (by omega) (by simp only [pw] at h1 ⊢; omega) (by omega) (by simp only [List.length_append, List.length_singleton]; omega), List.append_assoc, List.singleton_append]
  ·rw [if_neg c, if_pos (by omega), if_neg c, show n % 256 = n by omega]
theorem tdiv128 (n : Int) (h0 : 0 ≤ n) : Int.tdiv n 128 = n / 128 := Int.tdiv_eq_ediv_of_nonneg h0
theorem tmod128 (n : Int) (h0 : 0 ≤ n) : Int.tmod n 128 = n % 128 := Int.tmod_eq_emod_of_nonneg h0
theorem refPutL : ∀ (d k : Nat) (n : Int) (xs : List Int), 0 ≤ n → n < pw (d + 1) → n < 18446744073709551616 → d < k → xs.length + d + 1 < 140737488355328 → rollcallref01_Put.l0 k n xs = some (strOfNums (xs ++ digs (d + 1) n))
 | d, 0, n, xs, _, _, _, hk, _ => by omega
 | d, k + 1, n, xs, h0, h1, h2, hk, hl => by
  rw [rollcallref01_Put.l0, digs]
  by_cases c : n ≥ 128
  ·rw [if_pos c, if_pos (by omega), if_pos c, tdiv128 n h0, tmod128 n h0, wrap_u64 (n / 128) (by omega) (by omega), wrap_u64 (128 + n % 128) (by omega) (by omega), show (128 + n % 128) % 256 = 128 + n % 128 by omega]
   cases d with
   | zero =>
    simp only [pw] at h1
    omega
   | succ d =>
    rw [refPutL d k (n / 128) _ (by omega) (by simp only [pw] at h1 ⊢; omega) (by omega) (by omega) (by simp only [List.length_append, List.length_singleton]; omega), List.append_assoc, List.singleton_append]
  ·rw [if_neg c, if_pos (by omega), if_neg c, show n % 256 = n by omega]
/-- A number's bytes, as a text. -/
def P (n : Int) : ByteArray := strOfNums (digs 10 n)
theorem pw10 : pw 10 = 1180591620717411303424 := by decide
theorem put_f (k : Nat) (n : Int) (h0 : 0 ≤ n) (h1 : n < 18446744073709551616) (hk : 10 ≤ k) : varint_Put.f k n = some (P n) := by
 unfold varint_Put.f P
 rw [putL 9 k n [] h0 (by rw [pw10]; omega) (by omega) (by simp)]
 rfl
theorem refPut_f (k : Nat) (n : Int) (h0 : 0 ≤ n) (h1 : n < 18446744073709551616) (hk : 10 ≤ k) : rollcallref01_Put.f k n = some (P n) := by
 unfold rollcallref01_Put.f P
 rw [refPutL 9 k n [] h0 (by rw [pw10]; omega) h1 (by omega) (by simp)]
 rfl
theorem P_size (n : Int) : (P n).size = (digs 10 n).length := strOfNums_size _
theorem P_le (n : Int) : (P n).size ≤ 10 := by rw [P_size]; exact digs_len 10 n
theorem P_pos (n : Int) : 1 ≤ (P n).size := by rw [P_size]; exact digs_pos 9 n
theorem text_f (k : Nat) (s : ByteArray) (hs : s.size ≤ 140737488351232) (hk : 10 ≤ k) : varint_Text.f k s = some (P s.size ++ s) := by
 unfold varint_Text.f
 rw [wrap_u64 _ (by omega) (by omega), put_f k _ (by omega) (by omega) hk]
 simp only [Option.bind_some]
 rw [if_pos (by have := P_le s.size; omega)]
theorem refText_f (k : Nat) (s : ByteArray) (hs : s.size ≤ 140737488351232) (hk : 10 ≤ k) : rollcallref01_Text.f k s = some (P s.size ++ s) := by
 unfold rollcallref01_Text.f
 rw [wrap_u64 _ (by omega) (by omega), refPut_f k _ (by omega) (by omega) hk]
 simp only [Option.bind_some]
 rw [if_pos (by have := P_le s.size; omega)]

def cat : List ByteArray → ByteArray
 | [] => ⟨#[]⟩
 | a :: r => a ++ cat r
theorem nil_app (a : ByteArray) : (⟨#[]⟩ : ByteArray) ++ a = a := ba_ext (by rw [app_data]; rfl)
theorem app_nil (a : ByteArray) : a ++ (⟨#[]⟩ : ByteArray) = a := ba_ext (by rw [app_data]; simp)
theorem cat_app (a b : List ByteArray) : cat (a ++ b) = cat a ++ cat b := by
 induction a with
 | nil => rw [List.nil_append]; exact (nil_app _).symm
 | cons x r ih => rw [List.cons_append, cat, ih, cat, app_assoc]
theorem cat_snoc (l : List ByteArray) (a : ByteArray) : cat (l ++ [a]) = cat l ++ a := by rw [cat_app, cat, cat, app_nil]
theorem cat_size (l : List ByteArray) (B : Nat) (h : ∀ a ∈ l, a.size ≤ B) : (cat l).size ≤ l.length * B := by
 induction l with
 | nil => show (0 : Nat) ≤ _; omega
 | cons x r ih =>
  rw [cat, app_size]
  have h1 := h x (List.mem_cons_self ..)
  have h2 := ih (fun a ha => h a (List.mem_cons_of_mem _ ha))
  rw [List.length_cons, Nat.add_mul]
  omega
def X (s : ByteArray) : ByteArray := P s.size ++ s
theorem X_size (s : ByteArray) : (X s).size = (P s.size).size + s.size := app_size ..
theorem may_nums {a0 a1 a2 : Int} {a3 : ByteArray} (h : mayB a0 a1 a2 a3 = true) : 1 ≤ a0 ∧ a0 ≤ 4 ∧ -128 ≤ a1 ∧ a1 ≤ 127 ∧ 0 ≤ a2 ∧ a2 ≤ 1099511627776 ∧ a3.size ≤ 32 := by
 unfold mayB at h
 by_cases c : numsB a0 a1 a2 a3
 ·exact c
 ·rw [if_neg c] at h; cases h
theorem may_f (a0 a1 a2 : Int) (a3 : ByteArray) : value_May.f a0 a1 a2 a3 = some (mayB a0 a1 a2 a3) := rfl
def Vb (a0 a1 a2 : Int) (a3 : ByteArray) : ByteArray := (strOfNums [a0, a1 + 128] ++ P a2) ++ X a3
theorem Vb_size (a0 a1 a2 : Int) (a3 : ByteArray) : (Vb a0 a1 a2 a3).size = 2 + (P a2).size + ((P a3.size).size + a3.size) := by
 unfold Vb
 rw [app_size, app_size, strOfNums_size, X_size]
 rfl
def PV (a0 a1 a2 : Int) (a3 : ByteArray) : ByteArray × Bool := if mayB a0 a1 a2 a3 = true then (Vb a0 a1 a2 a3, true) else (⟨#[]⟩, false)
theorem put_v (k : Nat) (a0 a1 a2 : Int) (a3 : ByteArray) (hk : 10 ≤ k) : value_Put.f k a0 a1 a2 a3 = some (PV a0 a1 a2 a3) := by
 unfold value_Put.f PV
 rw [may_f]
 simp only [Option.bind_some]
 by_cases c : mayB a0 a1 a2 a3 = true
 ·obtain ⟨h1, h2, h3, h4, h5, h6, h7⟩ := may_nums c
  have hP := P_le a2
  have hP2 := P_le (a3.size : Int)
  rw [if_pos c, if_pos c, wrap_u64 a2 (by omega) (by omega), put_f k a2 (by omega) (by omega) hk, text_f k a3 (by omega) hk, wrap_id (a1 - -128) (by omega) (by omega), Int.emod_eq_of_lt (by omega) (by omega : a0 < 256), Int.emod_eq_of_lt (by omega) (by omega : a1 - -128 < 256)]
  simp only [Option.bind_some]
  rw [if_pos (by rw [strOfNums_size]; simp; omega), if_pos (by rw [app_size, app_size, strOfNums_size]; simp; omega), show a1 - -128 = a1 + 128 by omega]
  rfl
 ·rw [if_neg c, if_neg c]
theorem refPut_v (k : Nat) (a0 a1 a2 : Int) (a3 : ByteArray) (hk : 40 ≤ k) : rollcallref04_Put.f k a0 a1 a2 a3 = some (PV a0 a1 a2 a3) := by
 unfold rollcallref04_Put.f PV
 rw [refMay_f k a0 a1 a2 a3 hk]
 simp only [Option.bind_some]
 by_cases c : mayB a0 a1 a2 a3 = true
 ·obtain ⟨h1, h2, h3, h4, h5, h6, h7⟩ := may_nums c
  have hP := P_le a2
  have hP2 := P_le (a3.size : Int)
  rw [if_pos c, if_pos c, wrap_u64 a2 (by omega) (by omega), refPut_f k a2 (by omega) (by omega) (by omega), refText_f k a3 (by omega) (by omega), wrap_id (a1 + 128) (by omega) (by omega), Int.emod_eq_of_lt (by omega) (by omega : a0 < 256), Int.emod_eq_of_lt (by omega) (by omega : a1 + 128 < 256)]
  simp only [Option.bind_some]
  rw [if_pos (by rw [strOfNums_size]; simp; omega), if_pos (by rw [app_size, app_size, strOfNums_size]; simp; omega)]
  rfl
 ·rw [if_neg c, if_neg c]
def nameP (s : ByteArray) : ByteArray × Bool := if isB s = true then (X s, true) else (⟨#[]⟩, false)
theorem isB_size {s : ByteArray} (h : isB s = true) : s.size ≤ 16 := by
 unfold isB at h
 have h2 : decide (0 < s.size ∧ s.size ≤ 16) = true := by cases q : decide (0 < s.size ∧ s.size ≤ 16) <;> simp_all
 exact (of_decide_eq_true h2).2
theorem put_n (k : Nat) (s : ByteArray) (h : s.size ≤ 9223372036854775807) (hk : 10 ≤ k) : ident_Put.f k s = some (nameP s) := by
 unfold ident_Put.f nameP
 have e : ident_Is.f s = some (isB s) := by show XIdent.ident_Is.f s = _; unfold XIdent.ident_Is.f; rw [if_pos h]
 rw [e]
 simp only [Option.bind_some]
 by_cases c : isB s = true
 ·rw [if_pos c, if_pos c, text_f k s (by have := isB_size c; omega) hk]
  rfl
 ·rw [if_neg c, if_neg c]
theorem refPut_n (k : Nat) (s : ByteArray) (hk : 30 ≤ k) : rollcallref03_Put.f k s = some (nameP s) := by
 unfold rollcallref03_Put.f nameP
 rw [refIs_f k s hk]
 simp only [Option.bind_some]
 by_cases c : isB s = true
 ·rw [if_pos c, if_pos c, refText_f k s (by have := isB_size c; omega) (by omega)]
  rfl
 ·rw [if_neg c, if_neg c]
end Go.Proofs.Ytjccgdnnnlgeeaa.XPut
end

section
/- strings.Builder's methods at this program: the library's contracts, laid by hand where the kit's command leaves them (its structures name types that this program's bodies do not). -/
namespace Go.Proofs.Ytjccgdnnnlgeeaa.XBuilder
open Go.RowKit Go.Shelf Go.Proofs
def ren : Go.Shelf.Ren := ⟨fun | 166 => 66 | 169 => 67 | 240 => 73 | 276 => 78 | n => n, fun | 0 => 0 | 3 => 3 | 4 => 4 | 5 => 5 | 9 => 9 | 20 => 20 | 37 => 40 | 70 => 82 | 72 => 84 | 75 => 86 | 80 => 89 | 127 => 90 | 164 => 95 | n => n, fun | n => n⟩
theorem l166 : Lays.n166 Try.prog ren where
 mixed := by kernel_rfl
 f166 := Try.func66.trans (congrArg some (by kernel_rfl))
 f240 := Try.func73.trans (congrArg some (by kernel_rfl))
 f276 := Try.func78.trans (congrArg some (by kernel_rfl))
 t0 := Try.underlying0
 a0 := Try.isAgg0
 z0 := Try.sizeOf0
 v0 := Try.zeroValue0
 t3 := Try.underlying3
 a3 := Try.isAgg3
 z3 := Try.sizeOf3
 v3 := Try.zeroValue3
 t4 := Try.underlying4
 a4 := Try.isAgg4
 z4 := Try.sizeOf4
 v4 := Try.zeroValue4
 t9 := Try.underlying9
 a9 := Try.isAgg9
 z9 := Try.sizeOf9
 v9 := Try.zeroValue9
 t20 := Try.underlying20
 a20 := Try.isAgg20
 z20 := Try.sizeOf20
 v20 := Try.zeroValue20
 t37 := Try.underlying40
 a37 := Try.isAgg40
 z37 := Try.sizeOf40
 v37 := Try.zeroValue40
 t70 := Try.underlying82
 a70 := Try.isAgg82
 z70 := Try.sizeOf82
 v70 := Try.zeroValue82
 t72 := Try.underlying84
 a72 := Try.isAgg84
 z72 := Try.sizeOf84
 v72 := Try.zeroValue84
 t75 := Try.underlying86
 a75 := Try.isAgg86
 z75 := Try.sizeOf86
 v75 := Try.zeroValue86
 t164 := Try.underlying95
 a164 := Try.isAgg95
 z164 := Try.sizeOf95
 v164 := Try.zeroValue95
theorem l169 : Lays.n169 Try.prog ren where
 mixed := by kernel_rfl
 f169 := Try.func67.trans (congrArg some (by kernel_rfl))
 t0 := Try.underlying0
 a0 := Try.isAgg0
 z0 := Try.sizeOf0
 v0 := Try.zeroValue0
 t3 := Try.underlying3
 a3 := Try.isAgg3
 z3 := Try.sizeOf3
 v3 := Try.zeroValue3
 t9 := Try.underlying9
 a9 := Try.isAgg9
 z9 := Try.sizeOf9
 v9 := Try.zeroValue9
 t37 := Try.underlying40
 a37 := Try.isAgg40
 z37 := Try.sizeOf40
 v37 := Try.zeroValue40
 t70 := Try.underlying82
 a70 := Try.isAgg82
 z70 := Try.sizeOf82
 v70 := Try.zeroValue82
 t72 := Try.underlying84
 a72 := Try.isAgg84
 z72 := Try.sizeOf84
 v72 := Try.zeroValue84
 t127 := Try.underlying90
 a127 := Try.isAgg90
 z127 := Try.sizeOf90
 v127 := Try.zeroValue90
theorem ex : Builder.Extra Try.prog ren where
 sizeBuilder := by kernel_rfl
 liesBuilder := by kernel_rfl
 t5 := Try.underlying5
 a5 := Try.isAgg5
 z5 := Try.sizeOf5
 v5 := Try.zeroValue5
 infoByte := by kernel_rfl
 cellsByte := by kernel_rfl
 sizeByte := by kernel_rfl
 neB5 := by decide
/-- A builder that holds a text. -/
def Bld (B b : Nat) (s : ByteArray) (w : World) : Prop := Lib.IsBuilder 84 5 B b (Lib.strCells s) w
theorem Bld.new (w : World) : Bld w.heap.size w.heap.size ⟨#[]⟩ (w.alloc (.cells #[.pointer none, .slice none 0 0] 84)) := Lib.fresh_isBuilder _ _ w
theorem strCells_app (a b : ByteArray) : Lib.strCells (a ++ b) = Lib.strCells a ++ Lib.strCells b := by
 unfold Lib.strCells
 rw [← List.map_append]
 congr 1
theorem write_calls (B b : Nat) (a s : ByteArray) (w : World) (h : Bld B b a w) (hl : a.size + s.size ≤ 140737488355328) (hB : B ≤ w.heap.size) :
  Calls Try.prog 66 #[.pointer (some ⟨b, 0, none⟩), .string s] w fun e w' => e = .returned (.tuple #[.int .i64 s.size, .nilIface]) ∧ Bld B b (a ++ s) w' ∧ Below B w w' := by
 refine (Any.Builder_WriteString (ρ := ren) l166 ex B b (Lib.strCells a) s w h (by rw [Lib.strCells_length]; exact hl) hB).mono ?_
 rintro e w' ⟨he, hb, hw⟩
 refine ⟨he, ?_, hw⟩
 unfold Bld
 rw [strCells_app]
 exact Or.inr hb
theorem string_calls (B b : Nat) (a : ByteArray) (w : World) (h : Bld B b a w) (hB : B ≤ w.heap.size) :
  Calls Try.prog 67 #[.pointer (some ⟨b, 0, none⟩)] w fun e w' => e = .returned (.string a) ∧ Below B w w' := by
 have h' : Lib.IsBuilder 84 5 B b (Lib.byteCells a.data.toList) w := h
 refine (Any.Builder_String_any (ρ := ren) l169 ex B b a.data.toList w h' hB).mono ?_
 rintro e w' ⟨he, hw⟩
 exact ⟨he, hw⟩
end Go.Proofs.Ytjccgdnnnlgeeaa.XBuilder
end

section
/- digest's Put and Sum, walked, over a table that may be. -/
namespace Go.Proofs.Ytjccgdnnnlgeeaa.XSum
open Go.RowKit Go.Proofs.YtjccgdnnnlgeeaaW.PrintWords Go.Proofs.YtjccgdnnnlgeeaaW.PrintLast Go.Proofs.YtjccgdnnnlgeeaaW.PrintMore Go.Proofs.Ytjccgdnnnlgeeaa.PA Go.Proofs.Ytjccgdnnnlgeeaa.XMem Go.Proofs.Ytjccgdnnnlgeeaa.XPut Go.Proofs.Ytjccgdnnnlgeeaa.XBuilder
open Go.Proofs.Ytjccgdnnnlgeeaa.XMay (mayB numsB)
open Go.Proofs.Ytjccgdnnnlgeeaa.XIdent (isB)
open Go.Proofs.Ytjccgdnnnlgeeaa.XGen (wrap_succ getD_lt drop_get)
set_option linter.unusedVariables false
set_option linter.unusedSimpArgs false
abbrev Se := S52
abbrev kSe : Kd Se := k52
def rowB (x : Se) : ByteArray := (nameP x.f0).1 ++ (PV x.f1.f0 x.f1.f1 x.f1.f2 x.f1.f3).1
def putB (l : List Se) : ByteArray := P (l.length : Int) ++ cat (l.map rowB)
theorem rowB_size (x : Se) : (nameP x.f0).1.size ≤ 26 ∧ (PV x.f1.f0 x.f1.f1 x.f1.f2 x.f1.f3).1.size ≤ 60 := by
 constructor
 ·unfold nameP
  split
  ·rename_i h
   have h1 := isB_size h
   have h2 := P_le (x.f0.size : Int)
   rw [X_size]
   omega
  ·exact Nat.zero_le _
 ·unfold PV
  split
  ·rename_i h
   obtain ⟨_, _, _, _, _, _, h7⟩ := may_nums h
   have h1 := P_le x.f1.f2
   have h2 := P_le (x.f1.f3.size : Int)
   rw [Vb_size]
   omega
  ·exact Nat.zero_le _
theorem putB_size (l : List Se) (n : Nat) : (P (n : Int) ++ cat (l.map rowB)).size ≤ 10 + 86 * l.length := by
 rw [XBytes.app_size]
 have h1 := P_le (n : Int)
 have h2 := cat_size (l.map rowB) 86 (fun a ha => by
  obtain ⟨x, _, rfl⟩ := List.mem_map.1 ha
  unfold rowB
  rw [XBytes.app_size]
  have := rowB_size x
  omega)
 rw [List.length_map] at h2
 omega
theorem bld_below {B b : Nat} {s : ByteArray} {w w' : World} (h : Bld B b s w) (hb : Below w.heap.size w w') : Bld B b s w' := by
 rcases h with ⟨h1, v, h2, h3, h4⟩ | ⟨h1, v, h2, h3, h4⟩
 ·exact .inl ⟨h1, v, blk_below h2 hb, pw_own_below h3 hb, h4⟩
 ·exact .inr ⟨h1, v, blk_below h2 hb, pw_own_below h3 hb, h4⟩
theorem rd_at (l : List Se) (j : Nat) (h : j < l.length) : rd_T52 l (j : Int) = l[j] := by
 unfold rd_T52
 rw [Int.toNat_natCast, getD_lt l _ j h]
set_option maxHeartbeats 4000000 in
set_option maxRecDepth 100000 in
theorem put_calls (k0 : Nat) (l : List Se) (hl : l.length ≤ 40) (hm : digest_May.f k0 l = some true) (hz : ∀ x ∈ l, x.f0.size ≤ 9223372036854775807) (w : World) (v : Value) (h : Im kSe w v l) :
  Calls Try.prog 54 #[v] w fun e w' => e = .returned (.tuple #[.string (putB l), .bool true]) ∧ Below w.heap.size w w' := by
 obtain ⟨A, c, rfl, hc, hC⟩ := h.slice
 have HM := Aside0.mk (digest_May.calls k0 A c l true w hC hc hm)
 have HP := Aside0.mk (fun w => varint_Put.calls 20 (l.length : Int) (P (l.length : Int)) w (put_f 20 _ (by omega) (by omega) (by omega)))
 have HZ := Aside0.mk hz
 have HC := Aside0.mk hC
 have hl' : (l.length : Int) ≤ 40 := by omega
 have hu : IntKind.u64.wrap (l.length : Int) = (l.length : Int) := XVar.wrap_u64 _ (by omega) (by omega)
 clear hm hz h hC hc
 go_enter Try.func54, Try.ntmps54
 have HB : Below w.heap.size w w := Below.refl _ _
 go_wp2_with fail
 refine HM.out.mono ?_
 rintro e w1 ⟨rfl, hb⟩
 replace HB := below_step HB hb
 clear hb HM
 have hwz : w.heap.size ≤ w1.heap.size := HB.size
 go_upto_region 4 with (fail)
 generalize hg : World.alloc _ _ = w2
 have hbl : Bld w1.heap.size w1.heap.size ⟨#[]⟩ w2 := by rw [← hg]; exact Bld.new w1
 have hba := al_below hg
 have hz2 := hba.size
 replace HB := below_step HB hba
 clear hg hba
 generalize w1.heap.size = p at hbl hz2 hwz ⊢
 go_wp2_with fail
 refine (HP.out w2).mono ?_
 rintro e w3 ⟨rfl, hb⟩
 replace HB := below_step HB hb
 replace hbl := bld_below hbl hb
 have hz3 := Nat.le_trans hz2 hb.size
 clear hb HP hz2
 go_wp2_with fail
 refine (write_calls p p _ _ w3 hbl (by have := P_le (l.length : Int); show 0 + _ ≤ _; omega) hz3).mono ?_
 rintro e w4 ⟨rfl, hbl4, hb⟩
 rw [nil_app] at hbl4
 replace HB := HB.trans (hb.mono hwz)
 have hz4 := Nat.le_trans hz3 hb.size
 clear hb hbl hz3
 have HL := Aside0.mk (show Bld p p (P (l.length : Int) ++ cat ((l.take 0).map rowB)) w4 by rw [List.take_zero]; show Bld p p (_ ++ (⟨#[]⟩ : ByteArray)) w4; rw [app_nil]; exact hbl4)
 have HBr := Aside0.mk HB
 have HZr := Aside0.mk hz4
 clear hbl4 HB hz4
 go_wp2
 go_loopw [21] (fun x wr => ∃ k : Nat, x = .int .i64 k ∧ k ≤ l.length ∧ Aside0 (Bld p p (P (l.length : Int) ++ cat ((l.take k).map rowB)) wr) ∧ Aside0 (Below w.heap.size w wr) ∧ Aside0 (p ≤ wr.heap.size)) (fun x _ => l.length - (intOf x).toNat)
 case atStart => exact ⟨0, rfl, Nat.zero_le _, HL, HBr, HZr⟩
 case round =>
  clear HL HBr HZr
  obtain ⟨k, rfl, hk, hbl, hbr, hzr⟩ := hrel
  have k0 : (0 : Int) ≤ (k : Int) := by omega
  have k1 : (k : Int) ≤ 40 := by omega
  by_cases hlt : k < l.length
  ·have k2 : (k : Int) < (l.length : Int) := by omega
   obtain ⟨ad, he, h0, h1, h2, h3, h4⟩ := at_T52 (Kd.C_below HC.out hbr.out) (k : Int) (by omega) (by omega)
   subst he
   rw [Int.toNat_natCast] at h0 h1 h2 h3 h4
   rw [rd_at l k hlt] at h0 h1 h2 h3 h4
   have hx := HZ.out l[k] (List.getElem_mem hlt)
   have hnp := put_n 20 l[k].f0 hx (by omega)
   have hvp := put_v 20 l[k].f1.f0 l[k].f1.f1 l[k].f1.f2 l[k].f1.f3 (by omega)
   have hrow : P (l.length : Int) ++ cat ((l.take (k + 1)).map rowB) = (P (l.length : Int) ++ cat ((l.take k).map rowB)) ++ ((nameP l[k].f0).1 ++ (PV l[k].f1.f0 l[k].f1.f1 l[k].f1.f2 l[k].f1.f3).1) := by
    rw [List.take_succ_eq_append_getElem hlt, List.map_append, cat_app, XBytes.app_assoc]
    show _ ++ (_ ++ (rowB l[k] ++ (⟨#[]⟩ : ByteArray))) = _
    rw [app_nil]
    rfl
   have hs1 := rowB_size l[k]
   have hs2 := putB_size (l.take k) l.length
   rw [List.length_take] at hs2
   have HR := Aside0.mk hrow
   generalize l[k] = x at h0 h1 h2 h3 h4 hnp hvp HR hs1
   rcases hnq : nameP x.f0 with ⟨n1, n2⟩
   rcases hvq : PV x.f1.f0 x.f1.f1 x.f1.f2 x.f1.f3 with ⟨v1, v2⟩
   rw [hnq] at hnp HR hs1
   rw [hvq] at hvp HR hs1
   have HN := Aside0.mk (fun w => ident_Put.calls 20 x.f0 n1 n2 w hnp)
   have HV := Aside0.mk (fun w => value_Put.calls 20 x.f1.f0 x.f1.f1 x.f1.f2 x.f1.f3 v1 v2 w hvp)
   have hsz : n1.size + v1.size ≤ 90 := by have := hs1.1; have := hs1.2; simp only at *; omega
   have hsz' : (n1.size : Int) + (v1.size : Int) ≤ 90 := by omega
   have HS2 := Aside0.mk hs2
   clear hnq hvq hnp hvp hs1 hs2 hx hrow
   go_upto_region 8 with (fail)
   generalize hg : World.alloc _ _ = w5
   have hba := al_below hg
   have T6 := al_new hg
   have HB := below_step hbr.out hba
   have hb5 := bld_below hbl.out hba
   have hz5 := Nat.le_trans hzr.out hba.size
   clear hg hba hbr hbl hzr h0 h1 h2 h3 h4
   generalize wr.heap.size = p6 at T6 ⊢
   have r0 := (blk_cell T6 0).trans rfl
   have r1 := (blk_cell T6 1).trans rfl
   have r2 := (blk_cell T6 2).trans rfl
   have r3 := (blk_cell T6 3).trans rfl
   have r4 := (blk_cell T6 4).trans rfl
   go_wp2_with fail
   refine (HN.out w5).mono ?_
   rintro e w6 ⟨rfl, hb⟩
   replace HB := below_step HB hb
   replace hb5 := bld_below hb5 hb
   replace hz5 := Nat.le_trans hz5 hb.size
   replace r1 := pw_cell_below hb r1
   replace r2 := pw_cell_below hb r2
   replace r3 := pw_cell_below hb r3
   replace r4 := pw_cell_below hb r4
   clear hb HN r0 T6
   go_wp2_with fail
   refine (HV.out w6).mono ?_
   rintro e w7 ⟨rfl, hb⟩
   replace HB := below_step HB hb
   replace hb5 := bld_below hb5 hb
   replace hz5 := Nat.le_trans hz5 hb.size
   clear hb HV r1 r2 r3 r4
   go_wp2_with fail
   refine (write_calls p p _ (n1 ++ v1) w7 hb5 (by have := HS2.out; have : (n1 ++ v1).size = n1.size + v1.size := XBytes.app_size ..; omega) hz5).mono ?_
   rintro e w8 ⟨rfl, hbl8, hb⟩
   rw [← HR.out] at hbl8
   have HL := Aside0.mk hbl8
   have HBr := Aside0.mk (HB.trans (hb.mono hwz))
   have HZr := Aside0.mk (Nat.le_trans hz5 hb.size)
   clear hb hbl8 HB hb5 hz5 HS2
   go_wp2
   go_roundw
   case rel => exact ⟨k + 1, by go_num, by omega, HL, HBr, HZr⟩
   case measure => simp [intOf]; omega
  ·obtain rfl : k = l.length := by omega
   have k2 : (l.length : Int) ≤ (l.length : Int) := by omega
   have hb5 := hbl.out
   rw [List.take_length] at hb5
   have HB := hbr.out
   have hz5 := hzr.out
   clear hbl hbr hzr
   go_wp2_with fail
   refine (string_calls p p (putB l) wr hb5 hz5).mono ?_
   rintro e w8 ⟨rfl, hb⟩
   go_wp2
   go_ret2
   exact ⟨rfl, HB.trans (hb.mono hwz)⟩
end Go.Proofs.Ytjccgdnnnlgeeaa.XSum
end

section
-- Written by a program of this session (wip/tools/xprint.py), which drives the kit's print.
namespace Go.Proofs.Ytjccgdnnnlgeeaa.PA
open Go.RowKit Go.Proofs.YtjccgdnnnlgeeaaW.PrintWords Go.Proofs.YtjccgdnnnlgeeaaW.PrintLast Go.Proofs.YtjccgdnnnlgeeaaW.PrintMore
attribute [local go_sem] min2_int min_two   -- for this text's walks alone
set_option linter.unusedVariables false
set_option linter.unusedSimpArgs false

/-! ### varint_Take: function 71 -/
def varint_Take.j0 : Nat → ByteArray → Int → Int → Bool → Option (ByteArray × Int × Int)
 | 0, _, _, _, _ => none
 | k + 1, x0, x9, x10, x24 => if x24 = true then (some ((⟨#[]⟩ : ByteArray), 0, 3)) else (if x9 > (IntKind.u64.wrap (wrap64 ((x0.size : Int) - x10))) then (some ((⟨#[]⟩ : ByteArray), 0, 2)) else (if 0 ≤ x10 then (if x10 ≤ (wrap64 (x10 + (wrap64 (x9)))) then (if (wrap64 (x10 + (wrap64 (x9)))) ≤ (x0.size : Int) then (some (x0.extract (x10 : Int).toNat ((wrap64 (x10 + (wrap64 (x9)))) : Int).toNat, wrap64 (x10 + (wrap64 (x9))), 0)) else (none)) else (none)) else (none)))
def varint_Take.f (k : Nat) (a0 : ByteArray) (a1 : Int) (a2 : Int) : Option (ByteArray × Int × Int) := (varint_Get.f a0 a1).bind fun bt131 => (if bt131.2.2 = 0 then (if a2 < 0 then (varint_Take.j0 k a0 bt131.1 bt131.2.1 true) else (varint_Take.j0 k a0 bt131.1 bt131.2.1 (decide (bt131.1 > (IntKind.u64.wrap (a2)))))) else (some ((⟨#[]⟩ : ByteArray), 0, bt131.2.2)))
set_option maxHeartbeats 8000000 in
set_option maxRecDepth 100000 in
theorem varint_Take.calls (k : Nat) (a0 : ByteArray) (a1 : Int) (a2 : Int) (r1 : ByteArray) (r2 : Int) (r3 : Int) (w : World) (h : varint_Take.f k a0 a1 a2 = some (r1, r2, r3)) :
  Calls Try.prog 71 #[.string a0, .int .i64 a1, .int .i64 a2] w fun e w' => e = .returned (.tuple #[.string r1, .int .i64 r2, .int .i64 r3]) ∧ Drawn0 w w' := by
 have H : ((varint_Get.f a0 a1).bind fun bt131 => (if bt131.2.2 = 0 then (if a2 < 0 then (varint_Take.j0 k a0 bt131.1 bt131.2.1 true) else (varint_Take.j0 k a0 bt131.1 bt131.2.1 (decide (bt131.1 > (IntKind.u64.wrap (a2)))))) else (some ((⟨#[]⟩ : ByteArray), 0, bt131.2.2)))) = some (r1, r2, r3) := h
 clear h
 replace H := Option.bind_eq_some_iff.mp H
 obtain ⟨⟨t131, t132, t133⟩, A40, H⟩ := H
 replace H : (if t133 = 0 then (if a2 < 0 then (varint_Take.j0 k a0 t131 t132 true) else (varint_Take.j0 k a0 t131 t132 (decide (t131 > (IntKind.u64.wrap (a2)))))) else (some ((⟨#[]⟩ : ByteArray), 0, t133))) = some (r1, r2, r3) := H
 have A4 := Aside0.mk A40
 clear A40
 by_cases c5 : t133 = 0
 ·rw [if_pos c5] at H
  have c5b0 : (t133 == 0) = true := beq_iff_eq.mpr c5
  have c5b1 : (t133 != 0) = false := bne_eq_false_iff_eq.mpr c5
  clear c5
  have HC6 := Aside0.mk H
  clear H
  go_enter Try.func71, Try.ntmps71
  go_upto_region 4 with (first | ((with_reducible refine gate_callee (f := 42) rfl ?_); refine goesL_ (some 16) rfl rfl Try.func42 (by kernel_rfl) rfl #[.string a0, .int .i64 a1] rfl (by (try simp only [List.map_toArray, List.map_cons, List.map_nil]); first | done | rfl | (simp only [List.length_drop, List.length_take]; rfl)) ?_; (with_reducible refine (varint_Get.calls a0 a1 t131 t132 t133 _ A4.out).mono ?_); rintro e w' ⟨rfl, ⟨nd, rfl⟩⟩; refine ⟨_, rfl, ?_⟩))
  (try simp only [Act.put, List.setIfInBounds_toArray, List.set_cons_zero, List.set_cons_succ])
  go_cut [24] (fun v24 wc => ∃ (kq : Nat) (x24_5 : Bool), v24 = .bool x24_5 ∧ Aside0 (varint_Take.j0 kq a0 t131 t132 x24_5 = some (r1, r2, r3)) ∧ Aside0 (kq ≤ k) ∧ Drawn0 w wc)
  case first =>
   have H := HC6.out
   clear HC6
   by_cases c7 : a2 < 0
   ·rw [if_pos c7] at H
    have c7b0 : decide (a2 < 0) = true := decide_eq_true c7
    clear c7
    (first | rw [c7b0] | (simp only [i64_w, i32_w]; rw [c7b0]) | skip)
    have H' := Aside0.mk H
    clear H
    go_wp2
    go_meet
    case rel => exact ⟨_, (true), (by first | rfl | (simp; done) | (simp [*]; done)), H', ⟨by first | omega | exact Nat.le_refl _⟩, by repeat (first | exact Drawn0.refl _ | apply Drawn0.step)⟩
   ·rw [if_neg c7] at H
    have c7b0 : decide (a2 < 0) = false := decide_eq_false c7
    clear c7
    (first | rw [c7b0] | (simp only [i64_w, i32_w]; rw [c7b0]) | skip)
    have H' := Aside0.mk H
    clear H
    go_wp2
    go_meet
    case rel => exact ⟨_, (decide (t131 > (IntKind.u64.wrap (a2)))), (by first | rfl | (simp; done) | (simp [*]; done)), H', ⟨by first | omega | exact Nat.le_refl _⟩, by repeat (first | exact Drawn0.refl _ | apply Drawn0.step)⟩
  case rest =>
   clear HC6
   try clear p2
   try clear c4
   try clear c5
   try clear c5b0
   try clear c5b1
   try clear c7
   try clear c7b0
   obtain ⟨kq, x24_5, rfl, HA, HJ5, ⟨mc5, rfl⟩⟩ := hcut
   cases kq with
   | zero => exact absurd HA.out (by simp [varint_Take.j0])
   | succ kj5 =>
    have H := HA.out
    clear HA
    simp only [varint_Take.j0] at H
    by_cases c8 : x24_5 = true
    ·subst c8
     have H1 : (some ((⟨#[]⟩ : ByteArray), 0, 3)) = some (r1, r2, r3) := by rw [if_pos rfl] at H; exact H
     clear H
     have H := H1
     clear H1
     simp only [Option.some.injEq, Prod.mk.injEq] at H
     obtain ⟨rfl, rfl, rfl⟩ := H
     go_wp2
     go_ret3
     exact ⟨by first | rfl | (simp; done) | (simp [*]; done), by repeat (first | exact Drawn0.refl _ | apply Drawn0.step)⟩
    ·replace c8 := Bool.eq_false_iff.mpr c8
     subst c8
     have H1 : (if t131 > (IntKind.u64.wrap (wrap64 ((a0.size : Int) - t132))) then (some ((⟨#[]⟩ : ByteArray), 0, 2)) else (if 0 ≤ t132 then (if t132 ≤ (wrap64 (t132 + (wrap64 (t131)))) then (if (wrap64 (t132 + (wrap64 (t131)))) ≤ (a0.size : Int) then (some (a0.extract (t132 : Int).toNat ((wrap64 (t132 + (wrap64 (t131)))) : Int).toNat, wrap64 (t132 + (wrap64 (t131))), 0)) else (none)) else (none)) else (none))) = some (r1, r2, r3) := by rw [if_neg (show ¬ (false = true) by decide)] at H; exact H
     clear H
     have H := H1
     clear H1
     by_cases c9 : t131 > (IntKind.u64.wrap (wrap64 ((a0.size : Int) - t132)))
     ·rw [if_pos c9] at H
      have c9b0 : decide ((IntKind.u64.wrap (wrap64 ((a0.size : Int) - t132))) < t131) = true := decide_eq_true c9
      clear c9
      simp only [Option.some.injEq, Prod.mk.injEq] at H
      obtain ⟨rfl, rfl, rfl⟩ := H
      go_wp2
      go_ret3
      exact ⟨by first | rfl | (simp; done) | (simp [*]; done), by repeat (first | exact Drawn0.refl _ | apply Drawn0.step)⟩
     ·rw [if_neg c9] at H
      have c9b0 : decide ((IntKind.u64.wrap (wrap64 ((a0.size : Int) - t132))) < t131) = false := decide_eq_false c9
      clear c9
      by_cases c10 : 0 ≤ t132
      ·rw [if_pos c10] at H
       have c10b0 := eq_true c10
       have c10b1 : decide (0 ≤ t132) = true := decide_eq_true c10
       clear c10
       by_cases c11 : t132 ≤ (wrap64 (t132 + (wrap64 (t131))))
       ·rw [if_pos c11] at H
        have c11b0 := eq_true c11
        have c11b1 : decide (t132 ≤ (wrap64 (t132 + (wrap64 (t131))))) = true := decide_eq_true c11
        by_cases c12 : (wrap64 (t132 + (wrap64 (t131)))) ≤ (a0.size : Int)
        ·rw [if_pos c12] at H
         have c12b0 := eq_true c12
         have c12b1 : decide ((wrap64 (t132 + (wrap64 (t131)))) ≤ (a0.size : Int)) = true := decide_eq_true c12
         simp only [Option.some.injEq, Prod.mk.injEq] at H
         obtain ⟨rfl, rfl, rfl⟩ := H
         go_wp2
         go_ret3
         exact ⟨by first | rfl | (simp; done) | (simp [*]; done), by repeat (first | exact Drawn0.refl _ | apply Drawn0.step)⟩
        ·rw [if_neg c12] at H
         exact absurd H (by simp)
       ·rw [if_neg c11] at H
        exact absurd H (by simp)
      ·rw [if_neg c10] at H
       exact absurd H (by simp)
 ·rw [if_neg c5] at H
  have c5b0 : (t133 == 0) = false := beq_eq_false_iff_ne.mpr c5
  have c5b1 : (t133 != 0) = true := bne_iff_ne.mpr c5
  simp only [Option.some.injEq, Prod.mk.injEq] at H
  obtain ⟨rfl, rfl, rfl⟩ := H
  go_enter Try.func71, Try.ntmps71
  go_wp2_with (first | ((with_reducible refine gate_callee (f := 42) rfl ?_); refine goesL_ (some 16) rfl rfl Try.func42 (by kernel_rfl) rfl #[.string a0, .int .i64 a1] rfl (by (try simp only [List.map_toArray, List.map_cons, List.map_nil]); first | done | rfl | (simp only [List.length_drop, List.length_take]; rfl)) ?_; (with_reducible refine (varint_Get.calls a0 a1 t131 t132 t133 _ A4.out).mono ?_); rintro e w' ⟨rfl, ⟨nd, rfl⟩⟩; refine ⟨_, rfl, ?_⟩))
  go_ret3
  exact ⟨by first | rfl | (simp; done) | (simp [*]; done), by repeat (first | exact Drawn0.refl _ | apply Drawn0.step)⟩

/-! ### ident_Take: function 63 -/
def ident_Take.f (k : Nat) (a0 : ByteArray) (a1 : Int) : Option (ByteArray × Int × Int) := (varint_Take.f k a0 a1 16).bind fun bt134 => (if bt134.2.2 = 0 then ((ident_Is.f bt134.1).bind fun t137 => (if t137 = true then (some (bt134.1, bt134.2.1, 0)) else (some ((⟨#[]⟩ : ByteArray), 0, 3)))) else (some ((⟨#[]⟩ : ByteArray), 0, bt134.2.2)))
set_option maxHeartbeats 8000000 in
set_option maxRecDepth 100000 in
theorem ident_Take.calls (k : Nat) (a0 : ByteArray) (a1 : Int) (r1 : ByteArray) (r2 : Int) (r3 : Int) (w : World) (h : ident_Take.f k a0 a1 = some (r1, r2, r3)) :
  Calls Try.prog 63 #[.string a0, .int .i64 a1] w fun e w' => e = .returned (.tuple #[.string r1, .int .i64 r2, .int .i64 r3]) ∧ Below w.heap.size w w' := by
 have HB := Aside0.mk (Below.refl w.heap.size w)
 have H : ((varint_Take.f k a0 a1 16).bind fun bt134 => (if bt134.2.2 = 0 then ((ident_Is.f bt134.1).bind fun t137 => (if t137 = true then (some (bt134.1, bt134.2.1, 0)) else (some ((⟨#[]⟩ : ByteArray), 0, 3)))) else (some ((⟨#[]⟩ : ByteArray), 0, bt134.2.2)))) = some (r1, r2, r3) := h
 clear h
 replace H := Option.bind_eq_some_iff.mp H
 obtain ⟨⟨t134, t135, t136⟩, A30, H⟩ := H
 replace H : (if t136 = 0 then ((ident_Is.f t134).bind fun t137 => (if t137 = true then (some (t134, t135, 0)) else (some ((⟨#[]⟩ : ByteArray), 0, 3)))) else (some ((⟨#[]⟩ : ByteArray), 0, t136))) = some (r1, r2, r3) := H
 have A3 := Aside0.mk A30
 clear A30
 by_cases c4 : t136 = 0
 ·rw [if_pos c4] at H
  have c4b0 : (t136 == 0) = true := beq_iff_eq.mpr c4
  have c4b1 : (t136 != 0) = false := bne_eq_false_iff_eq.mpr c4
  clear c4
  replace H := Option.bind_eq_some_iff.mp H
  obtain ⟨t137, A50, H⟩ := H
  replace H : (if t137 = true then (some (t134, t135, 0)) else (some ((⟨#[]⟩ : ByteArray), 0, 3))) = some (r1, r2, r3) := H
  have A5 := Aside0.mk A50
  clear A50
  by_cases c6 : t137 = true
  ·subst c6
   have H1 : (some (t134, t135, 0)) = some (r1, r2, r3) := by rw [if_pos rfl] at H; exact H
   clear H
   have H := H1
   clear H1
   simp only [Option.some.injEq, Prod.mk.injEq] at H
   obtain ⟨rfl, rfl, rfl⟩ := H
   go_enter Try.func63, Try.ntmps63
   go_wp2_with (first | ((with_reducible refine gate_callee (f := 71) rfl ?_); refine goesL_ (some 13) rfl rfl Try.func71 (by kernel_rfl) rfl #[.string a0, .int .i64 a1, .int .i64 16] rfl (by (try simp only [List.map_toArray, List.map_cons, List.map_nil]); first | done | rfl | (simp only [List.length_drop, List.length_take]; rfl)) ?_; (with_reducible refine (varint_Take.calls k a0 a1 16 t134 t135 t136 _ A3.out).mono ?_); rintro e w' ⟨rfl, ⟨nd, rfl⟩⟩; refine ⟨_, rfl, ?_⟩) | ((with_reducible refine gate_callee (f := 68) rfl ?_); refine goesL_ (some 23) rfl rfl Try.func68 (by kernel_rfl) rfl #[.string t134] rfl (by (try simp only [List.map_toArray, List.map_cons, List.map_nil]); first | done | rfl | (simp only [List.length_drop, List.length_take]; rfl)) ?_; (with_reducible refine (ident_Is.calls t134 true _ A5.out).mono ?_); rintro e w7 ⟨rfl, hb⟩; refine ⟨_, rfl, ?_⟩; replace HB := Aside0.mk (below_step (hS HB.out) hb); (try clear hb); (try clear hb2); (try clear hk); (try clear hi)))
   go_ret3
   exact ⟨by first | rfl | (simp [errW_none, errW_some] <;> rfl) | (simp [*, errW_none, errW_some] <;> rfl), by repeat (first | (with_reducible first | exact HB.out | apply below_alloc | apply pw_below_drewN | apply below_drew1) | exact HB.out)⟩
  ·replace c6 := Bool.eq_false_iff.mpr c6
   subst c6
   have H1 : (some ((⟨#[]⟩ : ByteArray), 0, 3)) = some (r1, r2, r3) := by rw [if_neg (show ¬ (false = true) by decide)] at H; exact H
   clear H
   have H := H1
   clear H1
   simp only [Option.some.injEq, Prod.mk.injEq] at H
   obtain ⟨rfl, rfl, rfl⟩ := H
   go_enter Try.func63, Try.ntmps63
   go_wp2_with (first | ((with_reducible refine gate_callee (f := 71) rfl ?_); refine goesL_ (some 13) rfl rfl Try.func71 (by kernel_rfl) rfl #[.string a0, .int .i64 a1, .int .i64 16] rfl (by (try simp only [List.map_toArray, List.map_cons, List.map_nil]); first | done | rfl | (simp only [List.length_drop, List.length_take]; rfl)) ?_; (with_reducible refine (varint_Take.calls k a0 a1 16 t134 t135 t136 _ A3.out).mono ?_); rintro e w' ⟨rfl, ⟨nd, rfl⟩⟩; refine ⟨_, rfl, ?_⟩) | ((with_reducible refine gate_callee (f := 68) rfl ?_); refine goesL_ (some 23) rfl rfl Try.func68 (by kernel_rfl) rfl #[.string t134] rfl (by (try simp only [List.map_toArray, List.map_cons, List.map_nil]); first | done | rfl | (simp only [List.length_drop, List.length_take]; rfl)) ?_; (with_reducible refine (ident_Is.calls t134 false _ A5.out).mono ?_); rintro e w8 ⟨rfl, hb⟩; refine ⟨_, rfl, ?_⟩; replace HB := Aside0.mk (below_step (hS HB.out) hb); (try clear hb); (try clear hb2); (try clear hk); (try clear hi)))
   go_ret3
   exact ⟨by first | rfl | (simp [errW_none, errW_some] <;> rfl) | (simp [*, errW_none, errW_some] <;> rfl), by repeat (first | (with_reducible first | exact HB.out | apply below_alloc | apply pw_below_drewN | apply below_drew1) | exact HB.out)⟩
 ·rw [if_neg c4] at H
  have c4b0 : (t136 == 0) = false := beq_eq_false_iff_ne.mpr c4
  have c4b1 : (t136 != 0) = true := bne_iff_ne.mpr c4
  simp only [Option.some.injEq, Prod.mk.injEq] at H
  obtain ⟨rfl, rfl, rfl⟩ := H
  go_enter Try.func63, Try.ntmps63
  go_wp2_with (first | ((with_reducible refine gate_callee (f := 71) rfl ?_); refine goesL_ (some 13) rfl rfl Try.func71 (by kernel_rfl) rfl #[.string a0, .int .i64 a1, .int .i64 16] rfl (by (try simp only [List.map_toArray, List.map_cons, List.map_nil]); first | done | rfl | (simp only [List.length_drop, List.length_take]; rfl)) ?_; (with_reducible refine (varint_Take.calls k a0 a1 16 t134 t135 t136 _ A3.out).mono ?_); rintro e w' ⟨rfl, ⟨nd, rfl⟩⟩; refine ⟨_, rfl, ?_⟩))
  go_ret3
  exact ⟨by first | rfl | (simp [errW_none, errW_some] <;> rfl) | (simp [*, errW_none, errW_some] <;> rfl), by repeat (first | (with_reducible first | exact HB.out | apply below_alloc | apply pw_below_drewN | apply below_drew1) | exact HB.out)⟩

/-! ### value_Take: function 64 -/
def value_Take.j0 : Nat → ByteArray → Int → Bool → Option (Int × Int × Int × ByteArray × Int × Int)
 | 0, _, _, _ => none
 | k + 1, x0, x1, x13 => if x13 = true then (some (0, 0, 0, (⟨#[]⟩ : ByteArray), 0, 1)) else (if (wrap64 ((x0.size : Int) - x1)) < 2 then (some (0, 0, 0, (⟨#[]⟩ : ByteArray), 0, 2)) else ((varint_Get.f x0 (wrap64 (x1 + 2))).bind fun bt139 => (if bt139.2.2 = 0 then ((varint_Take.f k x0 bt139.2.1 32).bind fun bt142 => (if bt142.2.2 = 0 then (if 0 ≤ x1 then (if x1 < (x0.size : Int) then (if 0 ≤ (wrap64 (x1 + 1)) then (if (wrap64 (x1 + 1)) < (x0.size : Int) then ((value_May.f (wrap64 (bt x0 x1)) (wrap64 ((wrap64 (bt x0 (wrap64 (x1 + 1)))) + (-128))) (wrap64 (mn bt139.1 1099511627777)) bt142.1).bind fun t146 => (if t146 = true then (some (wrap64 (bt x0 x1), wrap64 ((wrap64 (bt x0 (wrap64 (x1 + 1)))) + (-128)), wrap64 (mn bt139.1 1099511627777), bt142.1, bt142.2.1, 0)) else (some (0, 0, 0, (⟨#[]⟩ : ByteArray), 0, 3)))) else (none)) else (none)) else (none)) else (none)) else (some (0, 0, 0, (⟨#[]⟩ : ByteArray), 0, bt142.2.2)))) else (some (0, 0, 0, (⟨#[]⟩ : ByteArray), 0, bt139.2.2)))))
def value_Take.f (k : Nat) (a0 : ByteArray) (a1 : Int) : Option (Int × Int × Int × ByteArray × Int × Int) := if a1 < 0 then (value_Take.j0 k a0 a1 true) else (value_Take.j0 k a0 a1 (decide (a1 > (a0.size : Int))))
def value_Take.T11 : Bool × List (List Nat × List Nat) := (true, [([], []), ([], []), ([0, 1], [0, 1]), ([2], [2]), ([], []), ([], []), ([5], [5]), ([4, 6], [4, 6]), ([7], [7]), ([8], [8]), ([], []), ([10], [10]), ([11], [11]), ([], []), ([3, 9, 12, 13], [3, 9, 12, 13]), ([], []), ([15, 14, 0, 1, 2, 3, 4, 5, 6, 7, 8, 9, 10, 11, 12, 13, 14, 15], [14, 15])])
def value_Take.B11 : List Nat := [0, 0, 3, 7, 0, 0, 32, 112, 240, 496, 0, 1024, 3072, 0, 16383, 0, 65535]
theorem value_Take.tab11 : rtab .any (opsOf Try.f64 11) = value_Take.T11 := by kernel_rfl
theorem value_Take.bits11 : waitsOk value_Take.T11.2 value_Take.B11 = true := by kernel_rfl
set_option maxHeartbeats 8000000 in
set_option maxRecDepth 100000 in
theorem value_Take.calls (k : Nat) (a0 : ByteArray) (a1 : Int) (r1 : Int) (r2 : Int) (r3 : Int) (r4 : ByteArray) (r5 : Int) (r6 : Int) (w : World) (h : value_Take.f k a0 a1 = some (r1, r2, r3, r4, r5, r6)) :
  Calls Try.prog 64 #[.string a0, .int .i64 a1] w fun e w' => e = .returned (.tuple #[.agg #[.int .i64 r1, .int .i64 r2, .int .i64 r3, .string r4], .int .i64 r5, .int .i64 r6]) ∧ Below w.heap.size w w' := by
 have hu23 := Try.underlying23
 have HB := Aside0.mk (Below.refl w.heap.size w)
 have H : (if a1 < 0 then (value_Take.j0 k a0 a1 true) else (value_Take.j0 k a0 a1 (decide (a1 > (a0.size : Int))))) = some (r1, r2, r3, r4, r5, r6) := h
 clear h
 have HC3 := Aside0.mk H
 clear H
 go_enter Try.func64, Try.ntmps64
 go_upto_region 1 with (first | ((with_reducible refine gate_dst (N := 4) rfl ?_); (try (refine gate_guard (by rfl) ?_; dsimp only)); refine box_event ?hg (N := 4) ?hd (cs := #[.int .i64 0, .int .i64 0, .int .i64 0, .string (⟨#[]⟩ : ByteArray)]) (t := 23) ?hr ?_; (case hd => rfl); (case hg => rfl); (case hr => first | (go_simp; done) | (go_simp; rfl)); intro gb138 hg w4 hbox hb; have BK138 := Aside0.mk (hbox); have GW138 := Aside0.mk ((by rw [hg]; exact (below_size (hS HB.out)) : w.heap.size ≤ gb138)); have GE138 := Aside0.mk ((by rw [hg]; exact (below_size (hS HB.out)) : w.heap.size ≤ gb138)); replace HB := Aside0.mk (below_step (hS HB.out) hb); clear hb hbox hg))
 (try simp only [Act.put, List.setIfInBounds_toArray, List.set_cons_zero, List.set_cons_succ])
 go_cut [13] (fun v13 wc => ∃ (kq : Nat) (x13_2 : Bool), v13 = .bool x13_2 ∧ Aside0 (value_Take.j0 kq a0 a1 x13_2 = some (r1, r2, r3, r4, r5, r6)) ∧ Aside0 (kq ≤ k) ∧ Aside0 (wc.heap[gb138]? = some (.cells #[.int .i64 0, .int .i64 0, .int .i64 0, .string (⟨#[]⟩ : ByteArray)] 23 (0, 0))) ∧ Aside0 (Below w.heap.size w wc))
 case first =>
  have H := HC3.out
  clear HC3
  by_cases c5 : a1 < 0
  ·rw [if_pos c5] at H
   have c5b0 : decide (a1 < 0) = true := decide_eq_true c5
   clear c5
   (first | rw [c5b0] | (simp only [i64_w, i32_w]; rw [c5b0]) | skip)
   have H' := Aside0.mk H
   clear H
   go_wp2
   go_meet
   case rel => exact ⟨_, (true), (by first | rfl | (simp; done) | (simp [*]; done)), H', ⟨by first | omega | exact Nat.le_refl _⟩, ⟨bS BK138.out⟩, ⟨by repeat (first | (with_reducible first | exact HB.out | apply below_alloc | apply pw_below_drewN | apply below_drew1 | refine below_set ?_ GE138.out) | exact HB.out)⟩⟩
  ·rw [if_neg c5] at H
   have c5b0 : decide (a1 < 0) = false := decide_eq_false c5
   clear c5
   (first | rw [c5b0] | (simp only [i64_w, i32_w]; rw [c5b0]) | skip)
   have H' := Aside0.mk H
   clear H
   go_wp2
   go_meet
   case rel => exact ⟨_, (decide (a1 > (a0.size : Int))), (by first | rfl | (simp; done) | (simp [*]; done)), H', ⟨by first | omega | exact Nat.le_refl _⟩, ⟨bS BK138.out⟩, ⟨by repeat (first | (with_reducible first | exact HB.out | apply below_alloc | apply pw_below_drewN | apply below_drew1 | refine below_set ?_ GE138.out) | exact HB.out)⟩⟩
 case rest =>
  clear HC3
  try clear p2
  try clear c5
  try clear c5b0
  obtain ⟨kq, x13_2, rfl, HA, HJ2, BK138, HB⟩ := hcut
  cases kq with
  | zero => exact absurd HA.out (by simp [value_Take.j0])
  | succ kj2 =>
   have H := HA.out
   clear HA
   simp only [value_Take.j0] at H
   by_cases c6 : x13_2 = true
   ·subst c6
    have H1 : (some (0, 0, 0, (⟨#[]⟩ : ByteArray), 0, 1)) = some (r1, r2, r3, r4, r5, r6) := by rw [if_pos rfl] at H; exact H
    clear H
    have H := H1
    clear H1
    simp only [Option.some.injEq, Prod.mk.injEq] at H
    obtain ⟨rfl, rfl, rfl, rfl, rfl, rfl⟩ := H
    have hcz7_0 : wc.cell? ⟨gb138, 0, none⟩ = some (.int .i64 0) := (blk_cell BK138.out 0).trans rfl
    have hcz7_1 : wc.cell? ⟨gb138, 1, none⟩ = some (.int .i64 0) := (blk_cell BK138.out 1).trans rfl
    have hcz7_2 : wc.cell? ⟨gb138, 2, none⟩ = some (.int .i64 0) := (blk_cell BK138.out 2).trans rfl
    have hcz7_3 : wc.cell? ⟨gb138, 3, none⟩ = some (.string (⟨#[]⟩ : ByteArray)) := (blk_cell BK138.out 3).trans rfl
    have hfz7_0 := blk_frozen BK138.out 0
    have hfz7_1 := blk_frozen BK138.out 1
    have hfz7_2 := blk_frozen BK138.out 2
    have hfz7_3 := blk_frozen BK138.out 3
    go_wp2
    refine bodyPost_ret (results_ctt rfl _ _ gb138 23 #[.int .i64 0, .int .i64 0, .int .i64 0, .string (⟨#[]⟩ : ByteArray)] (0, 0) _ rfl (bS (blk_put (bS (blk_put (bS (blk_put (bS (blk_put (bS BK138.out) 0 _ rfl)) 1 _ rfl)) 2 _ rfl)) 3 _ rfl)) Try.underlying23 rfl (by kernel_rfl)) rfl ?_
    exact ⟨by first | rfl | (simp [errW_none, errW_some] <;> rfl) | (simp [*, errW_none, errW_some] <;> rfl), by repeat (first | (with_reducible first | exact HB.out | apply below_alloc | apply pw_below_drewN | apply below_drew1 | refine below_set ?_ GE138.out) | exact HB.out)⟩
   ·replace c6 := Bool.eq_false_iff.mpr c6
    subst c6
    have H1 : (if (wrap64 ((a0.size : Int) - a1)) < 2 then (some (0, 0, 0, (⟨#[]⟩ : ByteArray), 0, 2)) else ((varint_Get.f a0 (wrap64 (a1 + 2))).bind fun bt139 => (if bt139.2.2 = 0 then ((varint_Take.f kj2 a0 bt139.2.1 32).bind fun bt142 => (if bt142.2.2 = 0 then (if 0 ≤ a1 then (if a1 < (a0.size : Int) then (if 0 ≤ (wrap64 (a1 + 1)) then (if (wrap64 (a1 + 1)) < (a0.size : Int) then ((value_May.f (wrap64 (bt a0 a1)) (wrap64 ((wrap64 (bt a0 (wrap64 (a1 + 1)))) + (-128))) (wrap64 (mn bt139.1 1099511627777)) bt142.1).bind fun t146 => (if t146 = true then (some (wrap64 (bt a0 a1), wrap64 ((wrap64 (bt a0 (wrap64 (a1 + 1)))) + (-128)), wrap64 (mn bt139.1 1099511627777), bt142.1, bt142.2.1, 0)) else (some (0, 0, 0, (⟨#[]⟩ : ByteArray), 0, 3)))) else (none)) else (none)) else (none)) else (none)) else (some (0, 0, 0, (⟨#[]⟩ : ByteArray), 0, bt142.2.2)))) else (some (0, 0, 0, (⟨#[]⟩ : ByteArray), 0, bt139.2.2))))) = some (r1, r2, r3, r4, r5, r6) := by rw [if_neg (show ¬ (false = true) by decide)] at H; exact H
    clear H
    have H := H1
    clear H1
    by_cases c8 : (wrap64 ((a0.size : Int) - a1)) < 2
    ·rw [if_pos c8] at H
     have c8b0 : decide ((wrap64 ((a0.size : Int) - a1)) < 2) = true := decide_eq_true c8
     clear c8
     simp only [Option.some.injEq, Prod.mk.injEq] at H
     obtain ⟨rfl, rfl, rfl, rfl, rfl, rfl⟩ := H
     have hcz9_0 : wc.cell? ⟨gb138, 0, none⟩ = some (.int .i64 0) := (blk_cell BK138.out 0).trans rfl
     have hcz9_1 : wc.cell? ⟨gb138, 1, none⟩ = some (.int .i64 0) := (blk_cell BK138.out 1).trans rfl
     have hcz9_2 : wc.cell? ⟨gb138, 2, none⟩ = some (.int .i64 0) := (blk_cell BK138.out 2).trans rfl
     have hcz9_3 : wc.cell? ⟨gb138, 3, none⟩ = some (.string (⟨#[]⟩ : ByteArray)) := (blk_cell BK138.out 3).trans rfl
     have hfz9_0 := blk_frozen BK138.out 0
     have hfz9_1 := blk_frozen BK138.out 1
     have hfz9_2 := blk_frozen BK138.out 2
     have hfz9_3 := blk_frozen BK138.out 3
     go_wp2
     refine bodyPost_ret (results_ctt rfl _ _ gb138 23 #[.int .i64 0, .int .i64 0, .int .i64 0, .string (⟨#[]⟩ : ByteArray)] (0, 0) _ rfl (bS (blk_put (bS (blk_put (bS (blk_put (bS (blk_put (bS BK138.out) 0 _ rfl)) 1 _ rfl)) 2 _ rfl)) 3 _ rfl)) Try.underlying23 rfl (by kernel_rfl)) rfl ?_
     exact ⟨by first | rfl | (simp [errW_none, errW_some] <;> rfl) | (simp [*, errW_none, errW_some] <;> rfl), by repeat (first | (with_reducible first | exact HB.out | apply below_alloc | apply pw_below_drewN | apply below_drew1 | refine below_set ?_ GE138.out) | exact HB.out)⟩
    ·rw [if_neg c8] at H
     have c8b0 : decide ((wrap64 ((a0.size : Int) - a1)) < 2) = false := decide_eq_false c8
     clear c8
     replace H := Option.bind_eq_some_iff.mp H
     obtain ⟨⟨t139, t140, t141⟩, A100, H⟩ := H
     replace H : (if t141 = 0 then ((varint_Take.f kj2 a0 t140 32).bind fun bt142 => (if bt142.2.2 = 0 then (if 0 ≤ a1 then (if a1 < (a0.size : Int) then (if 0 ≤ (wrap64 (a1 + 1)) then (if (wrap64 (a1 + 1)) < (a0.size : Int) then ((value_May.f (wrap64 (bt a0 a1)) (wrap64 ((wrap64 (bt a0 (wrap64 (a1 + 1)))) + (-128))) (wrap64 (mn t139 1099511627777)) bt142.1).bind fun t146 => (if t146 = true then (some (wrap64 (bt a0 a1), wrap64 ((wrap64 (bt a0 (wrap64 (a1 + 1)))) + (-128)), wrap64 (mn t139 1099511627777), bt142.1, bt142.2.1, 0)) else (some (0, 0, 0, (⟨#[]⟩ : ByteArray), 0, 3)))) else (none)) else (none)) else (none)) else (none)) else (some (0, 0, 0, (⟨#[]⟩ : ByteArray), 0, bt142.2.2)))) else (some (0, 0, 0, (⟨#[]⟩ : ByteArray), 0, t141))) = some (r1, r2, r3, r4, r5, r6) := H
     have A10 := Aside0.mk A100
     clear A100
     by_cases c11 : t141 = 0
     ·rw [if_pos c11] at H
      have c11b0 : (t141 == 0) = true := beq_iff_eq.mpr c11
      have c11b1 : (t141 != 0) = false := bne_eq_false_iff_eq.mpr c11
      clear c11
      replace H := Option.bind_eq_some_iff.mp H
      obtain ⟨⟨t142, t143, t144⟩, A120, H⟩ := H
      replace H : (if t144 = 0 then (if 0 ≤ a1 then (if a1 < (a0.size : Int) then (if 0 ≤ (wrap64 (a1 + 1)) then (if (wrap64 (a1 + 1)) < (a0.size : Int) then ((value_May.f (wrap64 (bt a0 a1)) (wrap64 ((wrap64 (bt a0 (wrap64 (a1 + 1)))) + (-128))) (wrap64 (mn t139 1099511627777)) t142).bind fun t146 => (if t146 = true then (some (wrap64 (bt a0 a1), wrap64 ((wrap64 (bt a0 (wrap64 (a1 + 1)))) + (-128)), wrap64 (mn t139 1099511627777), t142, t143, 0)) else (some (0, 0, 0, (⟨#[]⟩ : ByteArray), 0, 3)))) else (none)) else (none)) else (none)) else (none)) else (some (0, 0, 0, (⟨#[]⟩ : ByteArray), 0, t144))) = some (r1, r2, r3, r4, r5, r6) := H
      have A12 := Aside0.mk A120
      clear A120
      by_cases c13 : t144 = 0
      ·rw [if_pos c13] at H
       have c13b0 : (t144 == 0) = true := beq_iff_eq.mpr c13
       have c13b1 : (t144 != 0) = false := bne_eq_false_iff_eq.mpr c13
       clear c13
       by_cases c14 : 0 ≤ a1
       ·rw [if_pos c14] at H
        have c14b0 : decide (0 ≤ a1) = true := decide_eq_true c14
        clear c14
        by_cases c15 : a1 < (a0.size : Int)
        ·rw [if_pos c15] at H
         have c15b0 : decide (a1 < (a0.size : Int)) = true := decide_eq_true c15
         clear c15
         obtain ⟨ji17, hji17⟩ : ∃ j_ : Int, (wrap64 (a1 + 1)) = j_ := ⟨_, rfl⟩
         replace H : (if 0 ≤ (ji17) then (if (ji17) < (a0.size : Int) then ((value_May.f (wrap64 (bt a0 a1)) (wrap64 ((wrap64 (bt a0 (ji17))) + (-128))) (wrap64 (mn t139 1099511627777)) t142).bind fun t146 => (if t146 = true then (some (wrap64 (bt a0 a1), wrap64 ((wrap64 (bt a0 (ji17))) + (-128)), wrap64 (mn t139 1099511627777), t142, t143, 0)) else (some (0, 0, 0, (⟨#[]⟩ : ByteArray), 0, 3)))) else (none)) else (none)) = some (r1, r2, r3, r4, r5, r6) := by first | (rw [hji17] at H; exact H) | (simp only [hji17] at H ⊢; exact H)
         (try rw [hji17] at A10)
         (try rw [hji17] at A12)
         have hji17w : (IntKind.i64.wrap (a1 + 1)) = ji17 := (i64_w _).trans hji17
         by_cases c18 : 0 ≤ (ji17)
         ·rw [if_pos c18] at H
          have c18b0 : decide (0 ≤ (ji17)) = true := decide_eq_true c18
          clear c18
          by_cases c19 : (ji17) < (a0.size : Int)
          ·rw [if_pos c19] at H
           have c19b0 : decide ((ji17) < (a0.size : Int)) = true := decide_eq_true c19
           clear c19
           obtain ⟨ji21, hji21⟩ : ∃ j_ : Int, (mn t139 1099511627777) = j_ := ⟨_, rfl⟩
           replace H : ((value_May.f (wrap64 (bt a0 a1)) (wrap64 ((wrap64 (bt a0 (ji17))) + (-128))) (wrap64 (ji21)) t142).bind fun t146 => (if t146 = true then (some (wrap64 (bt a0 a1), wrap64 ((wrap64 (bt a0 (ji17))) + (-128)), wrap64 (ji21), t142, t143, 0)) else (some (0, 0, 0, (⟨#[]⟩ : ByteArray), 0, 3)))) = some (r1, r2, r3, r4, r5, r6) := by first | (rw [hji21] at H; exact H) | (simp only [hji21] at H ⊢; exact H)
           (try rw [hji21] at A10)
           (try rw [hji21] at A12)
           (try (have hji21h : ji21 ≤ 1099511627777 := by (rw [← hji21]; unfold mn; (repeat' split) <;> omega)))
           (try (have hji21g : ji21 ≤ 64 := by omega))
           have hji21_ : (if 1099511627777 < t139 then 1099511627777 else t139) = ji21 := hji21
           replace H := Option.bind_eq_some_iff.mp H
           obtain ⟨t146, A220, H⟩ := H
           replace H : (if t146 = true then (some (wrap64 (bt a0 a1), wrap64 ((wrap64 (bt a0 (ji17))) + (-128)), wrap64 (ji21), t142, t143, 0)) else (some (0, 0, 0, (⟨#[]⟩ : ByteArray), 0, 3))) = some (r1, r2, r3, r4, r5, r6) := H
           have A22 := Aside0.mk A220
           clear A220
           by_cases c23 : t146 = true
           ·subst c23
            have H1 : (some (wrap64 (bt a0 a1), wrap64 ((wrap64 (bt a0 (ji17))) + (-128)), wrap64 (ji21), t142, t143, 0)) = some (r1, r2, r3, r4, r5, r6) := by rw [if_pos rfl] at H; exact H
            clear H
            have H := H1
            clear H1
            simp only [Option.some.injEq, Prod.mk.injEq] at H
            obtain ⟨rfl, rfl, rfl, rfl, rfl, rfl⟩ := H
            try go_wp2_with (first | ((with_reducible refine gate_callee (f := 42) rfl ?_); refine goesL_ (some 34) rfl rfl Try.func42 (by kernel_rfl) rfl #[.string a0, .int .i64 (wrap64 (a1 + 2))] rfl (by (try simp only [List.map_toArray, List.map_cons, List.map_nil]); first | done | rfl | (simp only [List.length_drop, List.length_take]; rfl)) ?_; (with_reducible refine (varint_Get.calls a0 (wrap64 (a1 + 2)) t139 t140 t141 _ A10.out).mono ?_); rintro e w' ⟨rfl, ⟨nd, rfl⟩⟩; refine ⟨_, rfl, ?_⟩; (try (rw [drewN_self wc]; generalize hq_ : World.drewN wc _ = wc; have n0_ : Aside0 (wc.heap[gb138]? = some (.cells #[.int .i64 0, .int .i64 0, .int .i64 0, .string (⟨#[]⟩ : ByteArray)] 23 (0, 0))) := ⟨by rw [← hq_]; exact (bS BK138.out)⟩; have n1_ : Aside0 (Below w.heap.size w wc) := ⟨by rw [← hq_]; exact (hS HB.out)⟩; clear BK138 HB hq_; have BK138 := n0_; have HB := n1_; clear n0_ n1_))) | ((with_reducible refine gate_callee (f := 71) rfl ?_); refine goesL_ (some 45) rfl rfl Try.func71 (by kernel_rfl) rfl #[.string a0, .int .i64 t140, .int .i64 32] rfl (by (try simp only [List.map_toArray, List.map_cons, List.map_nil]); first | done | rfl | (simp only [List.length_drop, List.length_take]; rfl)) ?_; (with_reducible refine (varint_Take.calls kj2 a0 t140 32 t142 t143 t144 _ A12.out).mono ?_); rintro e w' ⟨rfl, ⟨nd, rfl⟩⟩; refine ⟨_, rfl, ?_⟩; (try (rw [drewN_self wc]; generalize hq_ : World.drewN wc _ = wc; have n0_ : Aside0 (wc.heap[gb138]? = some (.cells #[.int .i64 0, .int .i64 0, .int .i64 0, .string (⟨#[]⟩ : ByteArray)] 23 (0, 0))) := ⟨by rw [← hq_]; exact (bS BK138.out)⟩; have n1_ : Aside0 (Below w.heap.size w wc) := ⟨by rw [← hq_]; exact (hS HB.out)⟩; clear BK138 HB hq_; have BK138 := n0_; have HB := n1_; clear n0_ n1_))))
            replace BK138 := Aside0.mk (blk_drew BK138.out)
            replace HB := Aside0.mk (below_drew1 HB.out)
            have p16 : 0 ≤ (a1 : Int) := of_decide_eq_true (by first | (with_reducible assumption) | assumption)
            have q16 : a1 < (a0.size : Int) := of_decide_eq_true (by first | (with_reducible assumption) | assumption)
            have hx16 := bt_at a0 a1
            replace p16 := eq_true p16
            replace q16 := eq_true q16
            have p20 : 0 ≤ ((ji17) : Int) := of_decide_eq_true (by first | (with_reducible assumption) | assumption)
            have q20 : (ji17) < (a0.size : Int) := of_decide_eq_true (by first | (with_reducible assumption) | assumption)
            have hx20 := bt_at a0 (ji17)
            replace p20 := eq_true p20
            replace q20 := eq_true q20
            refine start_ (n := 17) (S := fun w' => True) (ds := []) #[false, false, false, false, false, false, false, false, false, false, false, false, false, false, false, false, false] (by kernel_rfl) rfl rfl trivial (fun hHeld => ?_); refine with_tabW value_Take.tab11 value_Take.bits11 (fun HT_ HW_ => ?_)
            generalize wc.drew = w24 at BK138 HB hHeld ⊢
            refine pure_ (i := 0) (N := some 53) (v := ?_) (a' := ?_) #[true, false, false, false, false, false, false, false, false, false, false, false, false, false, false, false, false] rfl rfl (any_of HT_.out (by kernel_rfl)) (fun _ _ _ h => h) (Or.inl ⟨by rfl, ?_⟩) ?_ ?_
            rotate_left
            ·intro w'
             go_simp
             with_reducible rfl
            rotate_left
            ·simp only [Act.put, List.setIfInBounds_toArray, List.set_cons_zero, List.set_cons_succ, i64_w, i32_w]
             rfl
            refine pure_ (i := 1) (N := some 54) (v := ?_) (a' := ?_) #[true, true, false, false, false, false, false, false, false, false, false, false, false, false, false, false, false] rfl rfl (any_of HT_.out (by kernel_rfl)) (fun _ _ _ h => h) (Or.inl ⟨by rfl, ?_⟩) ?_ ?_
            rotate_left
            ·intro w'
             go_simp
             with_reducible rfl
            rotate_left
            ·simp only [Act.put, List.setIfInBounds_toArray, List.set_cons_zero, List.set_cons_succ, i64_w, i32_w]
             rfl
            refine pure_ (i := 4) (N := some 57) (v := ?_) (a' := ?_) #[true, true, false, false, true, false, false, false, false, false, false, false, false, false, false, false, false] rfl rfl (any_of HT_.out (by kernel_rfl)) (fun _ _ _ h => h) (Or.inl ⟨by rfl, ?_⟩) ?_ ?_
            rotate_left
            ·intro w'
             go_simp
             with_reducible rfl
            rotate_left
            ·simp only [Act.put, List.setIfInBounds_toArray, List.set_cons_zero, List.set_cons_succ, i64_w, i32_w]
             rfl
            refine pure_ (i := 5) (N := some 58) (v := ?_) (a' := ?_) #[true, true, false, false, true, true, false, false, false, false, false, false, false, false, false, false, false] rfl rfl (any_of HT_.out (by kernel_rfl)) (fun _ _ _ h => h) (Or.inl ⟨by rfl, ?_⟩) ?_ ?_
            rotate_left
            ·intro w'
             go_simp
             with_reducible rfl
            rotate_left
            ·simp only [Act.put, List.setIfInBounds_toArray, List.set_cons_zero, List.set_cons_succ, i64_w, i32_w]
             rfl
            refine pure_ (i := 6) (N := some 59) (v := ?_) (a' := ?_) #[true, true, false, false, true, true, true, false, false, false, false, false, false, false, false, false, false] rfl rfl (any_of HT_.out (by kernel_rfl)) (fun _ _ _ h => h) (Or.inl ⟨by rfl, ?_⟩) ?_ ?_
            rotate_left
            ·intro w'
             go_simp
             with_reducible rfl
            rotate_left
            ·simp only [Act.put, List.setIfInBounds_toArray, List.set_cons_zero, List.set_cons_succ, i64_w, i32_w]
             rfl
            refine pure_ (i := 10) (N := some 63) (v := ?_) (a' := ?_) #[true, true, false, false, true, true, true, false, false, false, true, false, false, false, false, false, false] rfl rfl (any_of HT_.out (by kernel_rfl)) (fun _ _ _ h => h) (Or.inl ⟨by rfl, ?_⟩) ?_ ?_
            rotate_left
            ·intro w'
             go_simp
             with_reducible rfl
            rotate_left
            ·simp only [Act.put, List.setIfInBounds_toArray, List.set_cons_zero, List.set_cons_succ, i64_w, i32_w]
             rfl
            refine pure_ (i := 11) (N := some 64) (v := ?_) (a' := ?_) #[true, true, false, false, true, true, true, false, false, false, true, true, false, false, false, false, false] rfl rfl (any_of HT_.out (by kernel_rfl)) (fun _ _ _ h => h) (Or.inl ⟨by rfl, ?_⟩) ?_ ?_
            rotate_left
            ·intro w'
             go_simp
             with_reducible rfl
            rotate_left
            ·simp only [Act.put, List.setIfInBounds_toArray, List.set_cons_zero, List.set_cons_succ, i64_w, i32_w]
             rfl
            refine pure_ (i := 12) (N := some 65) (v := ?_) (a' := ?_) #[true, true, false, false, true, true, true, false, false, false, true, true, true, false, false, false, false] rfl rfl (any_of HT_.out (by kernel_rfl)) (fun _ _ _ h => h) (Or.inl ⟨by rfl, ?_⟩) ?_ ?_
            rotate_left
            ·intro w'
             go_simp
             with_reducible rfl
            rotate_left
            ·simp only [Act.put, List.setIfInBounds_toArray, List.set_cons_zero, List.set_cons_succ, i64_w, i32_w]
             rfl
            refine pure_ (i := 13) (N := some 66) (v := ?_) (a' := ?_) #[true, true, false, false, true, true, true, false, false, false, true, true, true, true, false, false, false] rfl rfl (any_of HT_.out (by kernel_rfl)) (fun _ _ _ h => h) (Or.inl ⟨by rfl, ?_⟩) ?_ ?_
            rotate_left
            ·intro w'
             go_simp
             with_reducible rfl
            rotate_left
            ·simp only [Act.put, List.setIfInBounds_toArray, List.set_cons_zero, List.set_cons_succ, i64_w, i32_w]
             rfl
            refine take_ (i := 2) (N := some 55) (v := ?_) (a' := ?_) #[true, true, true, false, true, true, true, false, false, false, true, true, true, true, false, false, false] rfl rfl (take_ofW HT_.out HW_.out (by kernel_rfl)) (fun _ _ _ h => h) (Or.inl ⟨by rfl, ?_⟩) hHeld ?_ ?_
            rotate_left
            ·intro w' _
             go_simp
             with_reducible rfl
            rotate_left
            ·simp only [Act.put, List.setIfInBounds_toArray, List.set_cons_zero, List.set_cons_succ, i64_w, i32_w]
             rfl
            refine pure_ (i := 3) (N := some 56) (v := ?_) (a' := ?_) #[true, true, true, true, true, true, true, false, false, false, true, true, true, true, false, false, false] rfl rfl (any_of HT_.out (by kernel_rfl)) (fun _ _ _ h => h) (Or.inl ⟨by rfl, ?_⟩) ?_ ?_
            rotate_left
            ·intro w'
             go_simp
             with_reducible rfl
            rotate_left
            ·simp only [Act.put, List.setIfInBounds_toArray, List.set_cons_zero, List.set_cons_succ, i64_w, i32_w]
             rfl
            refine take_ (i := 7) (N := some 60) (v := ?_) (a' := ?_) #[true, true, true, true, true, true, true, true, false, false, true, true, true, true, false, false, false] rfl rfl (take_ofW HT_.out HW_.out (by kernel_rfl)) (fun _ _ _ h => h) (Or.inl ⟨by rfl, ?_⟩) hHeld ?_ ?_
            rotate_left
            ·intro w' _
             go_simp
             with_reducible rfl
            rotate_left
            ·simp only [Act.put, List.setIfInBounds_toArray, List.set_cons_zero, List.set_cons_succ, i64_w, i32_w]
             rfl
            refine pure_ (i := 8) (N := some 61) (v := ?_) (a' := ?_) #[true, true, true, true, true, true, true, true, true, false, true, true, true, true, false, false, false] rfl rfl (any_of HT_.out (by kernel_rfl)) (fun _ _ _ h => h) (Or.inl ⟨by rfl, ?_⟩) ?_ ?_
            rotate_left
            ·intro w'
             go_simp
             with_reducible rfl
            rotate_left
            ·simp only [Act.put, List.setIfInBounds_toArray, List.set_cons_zero, List.set_cons_succ, i64_w, i32_w]
             rfl
            refine pure_ (i := 9) (N := some 62) (v := ?_) (a' := ?_) #[true, true, true, true, true, true, true, true, true, true, true, true, true, true, false, false, false] rfl rfl (any_of HT_.out (by kernel_rfl)) (fun _ _ _ h => h) (Or.inl ⟨by rfl, ?_⟩) ?_ ?_
            rotate_left
            ·intro w'
             go_simp
             with_reducible rfl
            rotate_left
            ·simp only [Act.put, List.setIfInBounds_toArray, List.set_cons_zero, List.set_cons_succ, i64_w, i32_w]
             rfl
            refine pure_ (i := 14) (N := some 67) (v := ?_) (a' := ?_) #[true, true, true, true, true, true, true, true, true, true, true, true, true, true, true, false, false] rfl rfl (any_of HT_.out (by kernel_rfl)) (fun _ _ _ h => h) (Or.inl ⟨by rfl, ?_⟩) ?_ ?_
            rotate_left
            ·intro w'
             go_simp
             with_reducible rfl
            rotate_left
            ·simp only [Act.put, List.setIfInBounds_toArray, List.set_cons_zero, List.set_cons_succ, i64_w, i32_w]
             rfl
            refine one_ (i := 15) (N := some 12) #[true, true, true, true, true, true, true, true, true, true, true, true, true, true, true, true, false] rfl rfl (one_of HT_.out (by kernel_rfl)) (by decide) (fun K hK => ?_)
            refine box_step ?hg (N := 12) ?hd (cs := #[.int .i64 0, .int .i64 0, .int .i64 0, .string (⟨#[]⟩ : ByteArray)]) (t := 23) ?hr ?_; (case hd => rfl); (case hg => rfl); (case hr => first | (go_simp; done) | (go_simp; rfl))
            intro gb145 hg w25 hbox hb
            have BK145 := Aside0.mk (hbox)
            have GW145 := Aside0.mk ((by rw [hg]; exact (below_size (by repeat (first | (with_reducible first | exact HB.out | apply below_alloc | apply pw_below_drewN | apply below_drew1 | refine below_set ?_ GE138.out) | exact HB.out))) : w.heap.size ≤ gb145))
            have GE145 := Aside0.mk ((by rw [hg]; exact (below_size (by repeat (first | (with_reducible first | exact HB.out | apply below_alloc | apply pw_below_drewN | apply below_drew1 | refine below_set ?_ GE138.out) | exact HB.out))) : w.heap.size ≤ gb145))
            replace HB := Aside0.mk (below_step (by repeat (first | (with_reducible first | exact HB.out | apply below_alloc | apply pw_below_drewN | apply below_drew1 | refine below_set ?_ GE138.out) | exact HB.out)) hb)
            have NB138_145 := Aside0.mk ((by rw [hg]; exact Nat.ne_of_lt (blk_lt (g := gb138) (o := .cells #[.int .i64 0, .int .i64 0, .int .i64 0, .string (⟨#[]⟩ : ByteArray)] 23 (0, 0)) (bS BK138.out)) : gb138 ≠ gb145))
            have NB145_138 := Aside0.mk ((by rw [hg]; exact Nat.ne_of_gt (blk_lt (g := gb138) (o := .cells #[.int .i64 0, .int .i64 0, .int .i64 0, .string (⟨#[]⟩ : ByteArray)] 23 (0, 0)) (bS BK138.out)) : gb145 ≠ gb138))
            replace BK138 := Aside0.mk (blk_below (bS BK138.out) hb)
            clear hb hbox hg
            refine hK.out _ _ trivial (fun hHeld => ?_)
            clear hK K
            refine norm_ (a' := ?_) ?_ ?_
            rotate_left
            ·show Act.put _ (some 12) _ = _
             simp only [Act.put, List.setIfInBounds_toArray, List.set_cons_zero, List.set_cons_succ, i64_w, i32_w]
             rfl
            refine one_ (i := 16) (N := none) #[true, true, true, true, true, true, true, true, true, true, true, true, true, true, true, true, true] rfl rfl (one_of HT_.out (by kernel_rfl)) (by decide) (fun K hK => ?_)
            have hs26 : w25.cell? ⟨gb145, 0, none⟩ = some (.int .i64 0) := (blk_cell BK145.out 0).trans rfl
            have hfs26 := blk_frozen BK145.out 0
            have hns26_0 := NB138_145.out
            have hms26_0 := NB145_138.out
            have hs27 : w25.cell? ⟨gb145, 1, none⟩ = some (.int .i64 0) := (blk_cell BK145.out 1).trans rfl
            have hfs27 := blk_frozen BK145.out 1
            have hns27_0 := NB138_145.out
            have hms27_0 := NB145_138.out
            have hs28 : w25.cell? ⟨gb145, 2, none⟩ = some (.int .i64 0) := (blk_cell BK145.out 2).trans rfl
            have hfs28 := blk_frozen BK145.out 2
            have hns28_0 := NB138_145.out
            have hms28_0 := NB145_138.out
            have hs29 : w25.cell? ⟨gb145, 3, none⟩ = some (.string (⟨#[]⟩ : ByteArray)) := (blk_cell BK145.out 3).trans rfl
            have hfs29 := blk_frozen BK145.out 3
            have hns29_0 := NB138_145.out
            have hms29_0 := NB145_138.out
            refine skip_ (w1 := ?_) (by rfl) rfl ?_ ?_
            rotate_left
            ·go_simp
             rfl
            refine hK.out _ _ trivial (fun hHeld => ?_)
            clear hK K
            refine done_ (done_of HT_.out (by kernel_rfl)) ?_
            have hnb30 := NB145_138.out
            have hnc30 := NB138_145.out
            have hcz31_0 : w25.cell? ⟨gb145, 0, none⟩ = some (.int .i64 0) := (blk_cell BK145.out 0).trans rfl
            have hcz31_1 : w25.cell? ⟨gb145, 1, none⟩ = some (.int .i64 0) := (blk_cell BK145.out 1).trans rfl
            have hcz31_2 : w25.cell? ⟨gb145, 2, none⟩ = some (.int .i64 0) := (blk_cell BK145.out 2).trans rfl
            have hcz31_3 : w25.cell? ⟨gb145, 3, none⟩ = some (.string (⟨#[]⟩ : ByteArray)) := (blk_cell BK145.out 3).trans rfl
            have hfz31_0 := blk_frozen BK145.out 0
            have hfz31_1 := blk_frozen BK145.out 1
            have hfz31_2 := blk_frozen BK145.out 2
            have hfz31_3 := blk_frozen BK145.out 3
            try go_wp2_with (first | ((with_reducible refine gate_callee (f := 70) rfl ?_); refine goesL_ (some 69) rfl rfl Try.func70 (by kernel_rfl) rfl #[.agg #[.int .i64 (wrap64 (bt a0 a1)), .int .i64 (wrap64 ((wrap64 (bt a0 (ji17))) + (-128))), .int .i64 (wrap64 (ji21)), .string t142]] rfl (by (try simp only [List.map_toArray, List.map_cons, List.map_nil]); first | done | (simp only [hji17, hji21]; rfl) | rfl | (simp only [List.length_drop, List.length_take]; rfl)) ?_; (with_reducible refine (value_May.calls (wrap64 (bt a0 a1)) (wrap64 ((wrap64 (bt a0 (ji17))) + (-128))) (wrap64 (ji21)) t142 true _ A22.out).mono ?_); rintro e w32 ⟨rfl, hb⟩; refine ⟨_, rfl, ?_⟩; replace BK138 := Aside0.mk (blk_below (bF (BK138.out) NB138_145.out) hb); replace BK145 := Aside0.mk (blk_below (g := gb145) (o := .cells #[.int .i64 (wrap64 (bt a0 a1)), .int .i64 (wrap64 ((wrap64 (bt a0 (ji17))) + (-128))), .int .i64 (wrap64 (ji21)), .string t142] 23 (0, 0)) (bS (blk_put (bS (blk_put (bS (blk_put (bS (blk_put (bS BK145.out) 0 _ rfl)) 1 _ rfl)) 2 _ rfl)) 3 _ rfl)) hb); replace HB := Aside0.mk (below_step (hF HB.out GE145.out) hb); (try clear hb); (try clear hb2); (try clear hk); (try clear hi); have hcz33_0 : w32.cell? ⟨gb145, 0, none⟩ = some (.int .i64 (wrap64 (bt a0 a1))) := (blk_cell BK145.out 0).trans rfl; have hcz33_1 : w32.cell? ⟨gb145, 1, none⟩ = some (.int .i64 (wrap64 ((wrap64 (bt a0 (ji17))) + (-128)))) := (blk_cell BK145.out 1).trans rfl; have hcz33_2 : w32.cell? ⟨gb145, 2, none⟩ = some (.int .i64 (wrap64 (ji21))) := (blk_cell BK145.out 2).trans rfl; have hcz33_3 : w32.cell? ⟨gb145, 3, none⟩ = some (.string t142) := (blk_cell BK145.out 3).trans rfl; have hfz33_0 := blk_frozen BK145.out 0; have hfz33_1 := blk_frozen BK145.out 1; have hfz33_2 := blk_frozen BK145.out 2; have hfz33_3 := blk_frozen BK145.out 3; have hcz34_0 : w32.cell? ⟨gb138, 0, none⟩ = some (.int .i64 0) := (blk_cell BK138.out 0).trans rfl; have hcz34_1 : w32.cell? ⟨gb138, 1, none⟩ = some (.int .i64 0) := (blk_cell BK138.out 1).trans rfl; have hcz34_2 : w32.cell? ⟨gb138, 2, none⟩ = some (.int .i64 0) := (blk_cell BK138.out 2).trans rfl; have hcz34_3 : w32.cell? ⟨gb138, 3, none⟩ = some (.string (⟨#[]⟩ : ByteArray)) := (blk_cell BK138.out 3).trans rfl; have hfz34_0 := blk_frozen BK138.out 0; have hfz34_1 := blk_frozen BK138.out 1; have hfz34_2 := blk_frozen BK138.out 2; have hfz34_3 := blk_frozen BK138.out 3))
            refine bodyPost_ret (results_ctt rfl _ _ gb138 23 #[.int .i64 (wrap64 (bt a0 a1)), .int .i64 (wrap64 ((wrap64 (bt a0 (ji17))) + (-128))), .int .i64 (wrap64 (ji21)), .string t142] (0, 0) _ rfl (bS (blk_put (bS (blk_put (bS (blk_put (bS (blk_put (bS BK138.out) 0 _ rfl)) 1 _ rfl)) 2 _ rfl)) 3 _ rfl)) Try.underlying23 rfl (by kernel_rfl)) rfl ?_
            exact ⟨by first | rfl | (simp [errW_none, errW_some] <;> rfl) | (simp only [← hji17, ← hji21]; first | rfl | (simp [errW_none, errW_some] <;> rfl)) | (simp [*, errW_none, errW_some] <;> rfl), by repeat (first | (with_reducible first | exact HB.out | apply below_alloc | apply pw_below_drewN | apply below_drew1 | refine below_set ?_ GE138.out | refine below_set ?_ GE145.out) | exact HB.out)⟩
           ·replace c23 := Bool.eq_false_iff.mpr c23
            subst c23
            have H1 : (some (0, 0, 0, (⟨#[]⟩ : ByteArray), 0, 3)) = some (r1, r2, r3, r4, r5, r6) := by rw [if_neg (show ¬ (false = true) by decide)] at H; exact H
            clear H
            have H := H1
            clear H1
            simp only [Option.some.injEq, Prod.mk.injEq] at H
            obtain ⟨rfl, rfl, rfl, rfl, rfl, rfl⟩ := H
            try go_wp2_with (first | ((with_reducible refine gate_callee (f := 42) rfl ?_); refine goesL_ (some 34) rfl rfl Try.func42 (by kernel_rfl) rfl #[.string a0, .int .i64 (wrap64 (a1 + 2))] rfl (by (try simp only [List.map_toArray, List.map_cons, List.map_nil]); first | done | rfl | (simp only [List.length_drop, List.length_take]; rfl)) ?_; (with_reducible refine (varint_Get.calls a0 (wrap64 (a1 + 2)) t139 t140 t141 _ A10.out).mono ?_); rintro e w' ⟨rfl, ⟨nd, rfl⟩⟩; refine ⟨_, rfl, ?_⟩; (try (rw [drewN_self wc]; generalize hq_ : World.drewN wc _ = wc; have n0_ : Aside0 (wc.heap[gb138]? = some (.cells #[.int .i64 0, .int .i64 0, .int .i64 0, .string (⟨#[]⟩ : ByteArray)] 23 (0, 0))) := ⟨by rw [← hq_]; exact (bS BK138.out)⟩; have n1_ : Aside0 (Below w.heap.size w wc) := ⟨by rw [← hq_]; exact (hS HB.out)⟩; clear BK138 HB hq_; have BK138 := n0_; have HB := n1_; clear n0_ n1_))) | ((with_reducible refine gate_callee (f := 71) rfl ?_); refine goesL_ (some 45) rfl rfl Try.func71 (by kernel_rfl) rfl #[.string a0, .int .i64 t140, .int .i64 32] rfl (by (try simp only [List.map_toArray, List.map_cons, List.map_nil]); first | done | rfl | (simp only [List.length_drop, List.length_take]; rfl)) ?_; (with_reducible refine (varint_Take.calls kj2 a0 t140 32 t142 t143 t144 _ A12.out).mono ?_); rintro e w' ⟨rfl, ⟨nd, rfl⟩⟩; refine ⟨_, rfl, ?_⟩; (try (rw [drewN_self wc]; generalize hq_ : World.drewN wc _ = wc; have n0_ : Aside0 (wc.heap[gb138]? = some (.cells #[.int .i64 0, .int .i64 0, .int .i64 0, .string (⟨#[]⟩ : ByteArray)] 23 (0, 0))) := ⟨by rw [← hq_]; exact (bS BK138.out)⟩; have n1_ : Aside0 (Below w.heap.size w wc) := ⟨by rw [← hq_]; exact (hS HB.out)⟩; clear BK138 HB hq_; have BK138 := n0_; have HB := n1_; clear n0_ n1_))))
            replace BK138 := Aside0.mk (blk_drew BK138.out)
            replace HB := Aside0.mk (below_drew1 HB.out)
            have p16 : 0 ≤ (a1 : Int) := of_decide_eq_true (by first | (with_reducible assumption) | assumption)
            have q16 : a1 < (a0.size : Int) := of_decide_eq_true (by first | (with_reducible assumption) | assumption)
            have hx16 := bt_at a0 a1
            replace p16 := eq_true p16
            replace q16 := eq_true q16
            have p20 : 0 ≤ ((ji17) : Int) := of_decide_eq_true (by first | (with_reducible assumption) | assumption)
            have q20 : (ji17) < (a0.size : Int) := of_decide_eq_true (by first | (with_reducible assumption) | assumption)
            have hx20 := bt_at a0 (ji17)
            replace p20 := eq_true p20
            replace q20 := eq_true q20
            refine start_ (n := 17) (S := fun w' => True) (ds := []) #[false, false, false, false, false, false, false, false, false, false, false, false, false, false, false, false, false] (by kernel_rfl) rfl rfl trivial (fun hHeld => ?_); refine with_tabW value_Take.tab11 value_Take.bits11 (fun HT_ HW_ => ?_)
            generalize wc.drew = w35 at BK138 HB hHeld ⊢
            refine pure_ (i := 0) (N := some 53) (v := ?_) (a' := ?_) #[true, false, false, false, false, false, false, false, false, false, false, false, false, false, false, false, false] rfl rfl (any_of HT_.out (by kernel_rfl)) (fun _ _ _ h => h) (Or.inl ⟨by rfl, ?_⟩) ?_ ?_
            rotate_left
            ·intro w'
             go_simp
             with_reducible rfl
            rotate_left
            ·simp only [Act.put, List.setIfInBounds_toArray, List.set_cons_zero, List.set_cons_succ, i64_w, i32_w]
             rfl
            refine pure_ (i := 1) (N := some 54) (v := ?_) (a' := ?_) #[true, true, false, false, false, false, false, false, false, false, false, false, false, false, false, false, false] rfl rfl (any_of HT_.out (by kernel_rfl)) (fun _ _ _ h => h) (Or.inl ⟨by rfl, ?_⟩) ?_ ?_
            rotate_left
            ·intro w'
             go_simp
             with_reducible rfl
            rotate_left
            ·simp only [Act.put, List.setIfInBounds_toArray, List.set_cons_zero, List.set_cons_succ, i64_w, i32_w]
             rfl
            refine pure_ (i := 4) (N := some 57) (v := ?_) (a' := ?_) #[true, true, false, false, true, false, false, false, false, false, false, false, false, false, false, false, false] rfl rfl (any_of HT_.out (by kernel_rfl)) (fun _ _ _ h => h) (Or.inl ⟨by rfl, ?_⟩) ?_ ?_
            rotate_left
            ·intro w'
             go_simp
             with_reducible rfl
            rotate_left
            ·simp only [Act.put, List.setIfInBounds_toArray, List.set_cons_zero, List.set_cons_succ, i64_w, i32_w]
             rfl
            refine pure_ (i := 5) (N := some 58) (v := ?_) (a' := ?_) #[true, true, false, false, true, true, false, false, false, false, false, false, false, false, false, false, false] rfl rfl (any_of HT_.out (by kernel_rfl)) (fun _ _ _ h => h) (Or.inl ⟨by rfl, ?_⟩) ?_ ?_
            rotate_left
            ·intro w'
             go_simp
             with_reducible rfl
            rotate_left
            ·simp only [Act.put, List.setIfInBounds_toArray, List.set_cons_zero, List.set_cons_succ, i64_w, i32_w]
             rfl
            refine pure_ (i := 6) (N := some 59) (v := ?_) (a' := ?_) #[true, true, false, false, true, true, true, false, false, false, false, false, false, false, false, false, false] rfl rfl (any_of HT_.out (by kernel_rfl)) (fun _ _ _ h => h) (Or.inl ⟨by rfl, ?_⟩) ?_ ?_
            rotate_left
            ·intro w'
             go_simp
             with_reducible rfl
            rotate_left
            ·simp only [Act.put, List.setIfInBounds_toArray, List.set_cons_zero, List.set_cons_succ, i64_w, i32_w]
             rfl
            refine pure_ (i := 10) (N := some 63) (v := ?_) (a' := ?_) #[true, true, false, false, true, true, true, false, false, false, true, false, false, false, false, false, false] rfl rfl (any_of HT_.out (by kernel_rfl)) (fun _ _ _ h => h) (Or.inl ⟨by rfl, ?_⟩) ?_ ?_
            rotate_left
            ·intro w'
             go_simp
             with_reducible rfl
            rotate_left
            ·simp only [Act.put, List.setIfInBounds_toArray, List.set_cons_zero, List.set_cons_succ, i64_w, i32_w]
             rfl
            refine pure_ (i := 11) (N := some 64) (v := ?_) (a' := ?_) #[true, true, false, false, true, true, true, false, false, false, true, true, false, false, false, false, false] rfl rfl (any_of HT_.out (by kernel_rfl)) (fun _ _ _ h => h) (Or.inl ⟨by rfl, ?_⟩) ?_ ?_
            rotate_left
            ·intro w'
             go_simp
             with_reducible rfl
            rotate_left
            ·simp only [Act.put, List.setIfInBounds_toArray, List.set_cons_zero, List.set_cons_succ, i64_w, i32_w]
             rfl
            refine pure_ (i := 12) (N := some 65) (v := ?_) (a' := ?_) #[true, true, false, false, true, true, true, false, false, false, true, true, true, false, false, false, false] rfl rfl (any_of HT_.out (by kernel_rfl)) (fun _ _ _ h => h) (Or.inl ⟨by rfl, ?_⟩) ?_ ?_
            rotate_left
            ·intro w'
             go_simp
             with_reducible rfl
            rotate_left
            ·simp only [Act.put, List.setIfInBounds_toArray, List.set_cons_zero, List.set_cons_succ, i64_w, i32_w]
             rfl
            refine pure_ (i := 13) (N := some 66) (v := ?_) (a' := ?_) #[true, true, false, false, true, true, true, false, false, false, true, true, true, true, false, false, false] rfl rfl (any_of HT_.out (by kernel_rfl)) (fun _ _ _ h => h) (Or.inl ⟨by rfl, ?_⟩) ?_ ?_
            rotate_left
            ·intro w'
             go_simp
             with_reducible rfl
            rotate_left
            ·simp only [Act.put, List.setIfInBounds_toArray, List.set_cons_zero, List.set_cons_succ, i64_w, i32_w]
             rfl
            refine take_ (i := 2) (N := some 55) (v := ?_) (a' := ?_) #[true, true, true, false, true, true, true, false, false, false, true, true, true, true, false, false, false] rfl rfl (take_ofW HT_.out HW_.out (by kernel_rfl)) (fun _ _ _ h => h) (Or.inl ⟨by rfl, ?_⟩) hHeld ?_ ?_
            rotate_left
            ·intro w' _
             go_simp
             with_reducible rfl
            rotate_left
            ·simp only [Act.put, List.setIfInBounds_toArray, List.set_cons_zero, List.set_cons_succ, i64_w, i32_w]
             rfl
            refine pure_ (i := 3) (N := some 56) (v := ?_) (a' := ?_) #[true, true, true, true, true, true, true, false, false, false, true, true, true, true, false, false, false] rfl rfl (any_of HT_.out (by kernel_rfl)) (fun _ _ _ h => h) (Or.inl ⟨by rfl, ?_⟩) ?_ ?_
            rotate_left
            ·intro w'
             go_simp
             with_reducible rfl
            rotate_left
            ·simp only [Act.put, List.setIfInBounds_toArray, List.set_cons_zero, List.set_cons_succ, i64_w, i32_w]
             rfl
            refine take_ (i := 7) (N := some 60) (v := ?_) (a' := ?_) #[true, true, true, true, true, true, true, true, false, false, true, true, true, true, false, false, false] rfl rfl (take_ofW HT_.out HW_.out (by kernel_rfl)) (fun _ _ _ h => h) (Or.inl ⟨by rfl, ?_⟩) hHeld ?_ ?_
            rotate_left
            ·intro w' _
             go_simp
             with_reducible rfl
            rotate_left
            ·simp only [Act.put, List.setIfInBounds_toArray, List.set_cons_zero, List.set_cons_succ, i64_w, i32_w]
             rfl
            refine pure_ (i := 8) (N := some 61) (v := ?_) (a' := ?_) #[true, true, true, true, true, true, true, true, true, false, true, true, true, true, false, false, false] rfl rfl (any_of HT_.out (by kernel_rfl)) (fun _ _ _ h => h) (Or.inl ⟨by rfl, ?_⟩) ?_ ?_
            rotate_left
            ·intro w'
             go_simp
             with_reducible rfl
            rotate_left
            ·simp only [Act.put, List.setIfInBounds_toArray, List.set_cons_zero, List.set_cons_succ, i64_w, i32_w]
             rfl
            refine pure_ (i := 9) (N := some 62) (v := ?_) (a' := ?_) #[true, true, true, true, true, true, true, true, true, true, true, true, true, true, false, false, false] rfl rfl (any_of HT_.out (by kernel_rfl)) (fun _ _ _ h => h) (Or.inl ⟨by rfl, ?_⟩) ?_ ?_
            rotate_left
            ·intro w'
             go_simp
             with_reducible rfl
            rotate_left
            ·simp only [Act.put, List.setIfInBounds_toArray, List.set_cons_zero, List.set_cons_succ, i64_w, i32_w]
             rfl
            refine pure_ (i := 14) (N := some 67) (v := ?_) (a' := ?_) #[true, true, true, true, true, true, true, true, true, true, true, true, true, true, true, false, false] rfl rfl (any_of HT_.out (by kernel_rfl)) (fun _ _ _ h => h) (Or.inl ⟨by rfl, ?_⟩) ?_ ?_
            rotate_left
            ·intro w'
             go_simp
             with_reducible rfl
            rotate_left
            ·simp only [Act.put, List.setIfInBounds_toArray, List.set_cons_zero, List.set_cons_succ, i64_w, i32_w]
             rfl
            refine one_ (i := 15) (N := some 12) #[true, true, true, true, true, true, true, true, true, true, true, true, true, true, true, true, false] rfl rfl (one_of HT_.out (by kernel_rfl)) (by decide) (fun K hK => ?_)
            refine box_step ?hg (N := 12) ?hd (cs := #[.int .i64 0, .int .i64 0, .int .i64 0, .string (⟨#[]⟩ : ByteArray)]) (t := 23) ?hr ?_; (case hd => rfl); (case hg => rfl); (case hr => first | (go_simp; done) | (go_simp; rfl))
            intro gb145 hg w36 hbox hb
            have BK145 := Aside0.mk (hbox)
            have GW145 := Aside0.mk ((by rw [hg]; exact (below_size (by repeat (first | (with_reducible first | exact HB.out | apply below_alloc | apply pw_below_drewN | apply below_drew1 | refine below_set ?_ GE138.out) | exact HB.out))) : w.heap.size ≤ gb145))
            have GE145 := Aside0.mk ((by rw [hg]; exact (below_size (by repeat (first | (with_reducible first | exact HB.out | apply below_alloc | apply pw_below_drewN | apply below_drew1 | refine below_set ?_ GE138.out) | exact HB.out))) : w.heap.size ≤ gb145))
            replace HB := Aside0.mk (below_step (by repeat (first | (with_reducible first | exact HB.out | apply below_alloc | apply pw_below_drewN | apply below_drew1 | refine below_set ?_ GE138.out) | exact HB.out)) hb)
            have NB138_145 := Aside0.mk ((by rw [hg]; exact Nat.ne_of_lt (blk_lt (g := gb138) (o := .cells #[.int .i64 0, .int .i64 0, .int .i64 0, .string (⟨#[]⟩ : ByteArray)] 23 (0, 0)) (bS BK138.out)) : gb138 ≠ gb145))
            have NB145_138 := Aside0.mk ((by rw [hg]; exact Nat.ne_of_gt (blk_lt (g := gb138) (o := .cells #[.int .i64 0, .int .i64 0, .int .i64 0, .string (⟨#[]⟩ : ByteArray)] 23 (0, 0)) (bS BK138.out)) : gb145 ≠ gb138))
            replace BK138 := Aside0.mk (blk_below (bS BK138.out) hb)
            clear hb hbox hg
            refine hK.out _ _ trivial (fun hHeld => ?_)
            clear hK K
            refine norm_ (a' := ?_) ?_ ?_
            rotate_left
            ·show Act.put _ (some 12) _ = _
             simp only [Act.put, List.setIfInBounds_toArray, List.set_cons_zero, List.set_cons_succ, i64_w, i32_w]
             rfl
            refine one_ (i := 16) (N := none) #[true, true, true, true, true, true, true, true, true, true, true, true, true, true, true, true, true] rfl rfl (one_of HT_.out (by kernel_rfl)) (by decide) (fun K hK => ?_)
            have hs37 : w36.cell? ⟨gb145, 0, none⟩ = some (.int .i64 0) := (blk_cell BK145.out 0).trans rfl
            have hfs37 := blk_frozen BK145.out 0
            have hns37_0 := NB138_145.out
            have hms37_0 := NB145_138.out
            have hs38 : w36.cell? ⟨gb145, 1, none⟩ = some (.int .i64 0) := (blk_cell BK145.out 1).trans rfl
            have hfs38 := blk_frozen BK145.out 1
            have hns38_0 := NB138_145.out
            have hms38_0 := NB145_138.out
            have hs39 : w36.cell? ⟨gb145, 2, none⟩ = some (.int .i64 0) := (blk_cell BK145.out 2).trans rfl
            have hfs39 := blk_frozen BK145.out 2
            have hns39_0 := NB138_145.out
            have hms39_0 := NB145_138.out
            have hs40 : w36.cell? ⟨gb145, 3, none⟩ = some (.string (⟨#[]⟩ : ByteArray)) := (blk_cell BK145.out 3).trans rfl
            have hfs40 := blk_frozen BK145.out 3
            have hns40_0 := NB138_145.out
            have hms40_0 := NB145_138.out
            refine skip_ (w1 := ?_) (by rfl) rfl ?_ ?_
            rotate_left
            ·go_simp
             rfl
            refine hK.out _ _ trivial (fun hHeld => ?_)
            clear hK K
            refine done_ (done_of HT_.out (by kernel_rfl)) ?_
            have hnb41 := NB145_138.out
            have hnc41 := NB138_145.out
            have hcz42_0 : w36.cell? ⟨gb145, 0, none⟩ = some (.int .i64 0) := (blk_cell BK145.out 0).trans rfl
            have hcz42_1 : w36.cell? ⟨gb145, 1, none⟩ = some (.int .i64 0) := (blk_cell BK145.out 1).trans rfl
            have hcz42_2 : w36.cell? ⟨gb145, 2, none⟩ = some (.int .i64 0) := (blk_cell BK145.out 2).trans rfl
            have hcz42_3 : w36.cell? ⟨gb145, 3, none⟩ = some (.string (⟨#[]⟩ : ByteArray)) := (blk_cell BK145.out 3).trans rfl
            have hfz42_0 := blk_frozen BK145.out 0
            have hfz42_1 := blk_frozen BK145.out 1
            have hfz42_2 := blk_frozen BK145.out 2
            have hfz42_3 := blk_frozen BK145.out 3
            try go_wp2_with (first | ((with_reducible refine gate_callee (f := 70) rfl ?_); refine goesL_ (some 69) rfl rfl Try.func70 (by kernel_rfl) rfl #[.agg #[.int .i64 (wrap64 (bt a0 a1)), .int .i64 (wrap64 ((wrap64 (bt a0 (ji17))) + (-128))), .int .i64 (wrap64 (ji21)), .string t142]] rfl (by (try simp only [List.map_toArray, List.map_cons, List.map_nil]); first | done | (simp only [hji17, hji21]; rfl) | rfl | (simp only [List.length_drop, List.length_take]; rfl)) ?_; (with_reducible refine (value_May.calls (wrap64 (bt a0 a1)) (wrap64 ((wrap64 (bt a0 (ji17))) + (-128))) (wrap64 (ji21)) t142 false _ A22.out).mono ?_); rintro e w43 ⟨rfl, hb⟩; refine ⟨_, rfl, ?_⟩; replace BK138 := Aside0.mk (blk_below (bF (BK138.out) NB138_145.out) hb); replace BK145 := Aside0.mk (blk_below (g := gb145) (o := .cells #[.int .i64 (wrap64 (bt a0 a1)), .int .i64 (wrap64 ((wrap64 (bt a0 (ji17))) + (-128))), .int .i64 (wrap64 (ji21)), .string t142] 23 (0, 0)) (bS (blk_put (bS (blk_put (bS (blk_put (bS (blk_put (bS BK145.out) 0 _ rfl)) 1 _ rfl)) 2 _ rfl)) 3 _ rfl)) hb); replace HB := Aside0.mk (below_step (hF HB.out GE145.out) hb); (try clear hb); (try clear hb2); (try clear hk); (try clear hi); have hcz44_0 : w43.cell? ⟨gb138, 0, none⟩ = some (.int .i64 0) := (blk_cell BK138.out 0).trans rfl; have hcz44_1 : w43.cell? ⟨gb138, 1, none⟩ = some (.int .i64 0) := (blk_cell BK138.out 1).trans rfl; have hcz44_2 : w43.cell? ⟨gb138, 2, none⟩ = some (.int .i64 0) := (blk_cell BK138.out 2).trans rfl; have hcz44_3 : w43.cell? ⟨gb138, 3, none⟩ = some (.string (⟨#[]⟩ : ByteArray)) := (blk_cell BK138.out 3).trans rfl; have hfz44_0 := blk_frozen BK138.out 0; have hfz44_1 := blk_frozen BK138.out 1; have hfz44_2 := blk_frozen BK138.out 2; have hfz44_3 := blk_frozen BK138.out 3))
            refine bodyPost_ret (results_ctt rfl _ _ gb138 23 #[.int .i64 0, .int .i64 0, .int .i64 0, .string (⟨#[]⟩ : ByteArray)] (0, 0) _ rfl (bS (blk_put (bS (blk_put (bS (blk_put (bS (blk_put (bS BK138.out) 0 _ rfl)) 1 _ rfl)) 2 _ rfl)) 3 _ rfl)) Try.underlying23 rfl (by kernel_rfl)) rfl ?_
            exact ⟨by first | rfl | (simp [errW_none, errW_some] <;> rfl) | (simp only [← hji17, ← hji21]; first | rfl | (simp [errW_none, errW_some] <;> rfl)) | (simp [*, errW_none, errW_some] <;> rfl), by repeat (first | (with_reducible first | exact HB.out | apply below_alloc | apply pw_below_drewN | apply below_drew1 | refine below_set ?_ GE138.out | refine below_set ?_ GE145.out) | exact HB.out)⟩
          ·rw [if_neg c19] at H
           exact absurd H (by simp)
         ·rw [if_neg c18] at H
          exact absurd H (by simp)
        ·rw [if_neg c15] at H
         exact absurd H (by simp)
       ·rw [if_neg c14] at H
        exact absurd H (by simp)
      ·rw [if_neg c13] at H
       have c13b0 : (t144 == 0) = false := beq_eq_false_iff_ne.mpr c13
       have c13b1 : (t144 != 0) = true := bne_iff_ne.mpr c13
       simp only [Option.some.injEq, Prod.mk.injEq] at H
       obtain ⟨rfl, rfl, rfl, rfl, rfl, rfl⟩ := H
       go_wp2_with (first | ((with_reducible refine gate_callee (f := 42) rfl ?_); refine goesL_ (some 34) rfl rfl Try.func42 (by kernel_rfl) rfl #[.string a0, .int .i64 (wrap64 (a1 + 2))] rfl (by (try simp only [List.map_toArray, List.map_cons, List.map_nil]); first | done | rfl | (simp only [List.length_drop, List.length_take]; rfl)) ?_; (with_reducible refine (varint_Get.calls a0 (wrap64 (a1 + 2)) t139 t140 t141 _ A10.out).mono ?_); rintro e w' ⟨rfl, ⟨nd, rfl⟩⟩; refine ⟨_, rfl, ?_⟩; (try (rw [drewN_self wc]; generalize hq_ : World.drewN wc _ = wc; have n0_ : Aside0 (wc.heap[gb138]? = some (.cells #[.int .i64 0, .int .i64 0, .int .i64 0, .string (⟨#[]⟩ : ByteArray)] 23 (0, 0))) := ⟨by rw [← hq_]; exact (bS BK138.out)⟩; have n1_ : Aside0 (Below w.heap.size w wc) := ⟨by rw [← hq_]; exact (hS HB.out)⟩; clear BK138 HB hq_; have BK138 := n0_; have HB := n1_; clear n0_ n1_))) | ((with_reducible refine gate_callee (f := 71) rfl ?_); refine goesL_ (some 45) rfl rfl Try.func71 (by kernel_rfl) rfl #[.string a0, .int .i64 t140, .int .i64 32] rfl (by (try simp only [List.map_toArray, List.map_cons, List.map_nil]); first | done | rfl | (simp only [List.length_drop, List.length_take]; rfl)) ?_; (with_reducible refine (varint_Take.calls kj2 a0 t140 32 t142 t143 t144 _ A12.out).mono ?_); rintro e w' ⟨rfl, ⟨nd, rfl⟩⟩; refine ⟨_, rfl, ?_⟩; (try (rw [drewN_self wc]; generalize hq_ : World.drewN wc _ = wc; have n0_ : Aside0 (wc.heap[gb138]? = some (.cells #[.int .i64 0, .int .i64 0, .int .i64 0, .string (⟨#[]⟩ : ByteArray)] 23 (0, 0))) := ⟨by rw [← hq_]; exact (bS BK138.out)⟩; have n1_ : Aside0 (Below w.heap.size w wc) := ⟨by rw [← hq_]; exact (hS HB.out)⟩; clear BK138 HB hq_; have BK138 := n0_; have HB := n1_; clear n0_ n1_)); have hcz45_0 : wc.cell? ⟨gb138, 0, none⟩ = some (.int .i64 0) := (blk_cell BK138.out 0).trans rfl; have hcz45_1 : wc.cell? ⟨gb138, 1, none⟩ = some (.int .i64 0) := (blk_cell BK138.out 1).trans rfl; have hcz45_2 : wc.cell? ⟨gb138, 2, none⟩ = some (.int .i64 0) := (blk_cell BK138.out 2).trans rfl; have hcz45_3 : wc.cell? ⟨gb138, 3, none⟩ = some (.string (⟨#[]⟩ : ByteArray)) := (blk_cell BK138.out 3).trans rfl; have hfz45_0 := blk_frozen BK138.out 0; have hfz45_1 := blk_frozen BK138.out 1; have hfz45_2 := blk_frozen BK138.out 2; have hfz45_3 := blk_frozen BK138.out 3))
       refine bodyPost_ret (results_ctt rfl _ _ gb138 23 #[.int .i64 0, .int .i64 0, .int .i64 0, .string (⟨#[]⟩ : ByteArray)] (0, 0) _ rfl (bS (blk_put (bS (blk_put (bS (blk_put (bS (blk_put (bS BK138.out) 0 _ rfl)) 1 _ rfl)) 2 _ rfl)) 3 _ rfl)) Try.underlying23 rfl (by kernel_rfl)) rfl ?_
       exact ⟨by first | rfl | (simp [errW_none, errW_some] <;> rfl) | (simp [*, errW_none, errW_some] <;> rfl), by repeat (first | (with_reducible first | exact HB.out | apply below_alloc | apply pw_below_drewN | apply below_drew1 | refine below_set ?_ GE138.out) | exact HB.out)⟩
     ·rw [if_neg c11] at H
      have c11b0 : (t141 == 0) = false := beq_eq_false_iff_ne.mpr c11
      have c11b1 : (t141 != 0) = true := bne_iff_ne.mpr c11
      simp only [Option.some.injEq, Prod.mk.injEq] at H
      obtain ⟨rfl, rfl, rfl, rfl, rfl, rfl⟩ := H
      go_wp2_with (first | ((with_reducible refine gate_callee (f := 42) rfl ?_); refine goesL_ (some 34) rfl rfl Try.func42 (by kernel_rfl) rfl #[.string a0, .int .i64 (wrap64 (a1 + 2))] rfl (by (try simp only [List.map_toArray, List.map_cons, List.map_nil]); first | done | rfl | (simp only [List.length_drop, List.length_take]; rfl)) ?_; (with_reducible refine (varint_Get.calls a0 (wrap64 (a1 + 2)) t139 t140 t141 _ A10.out).mono ?_); rintro e w' ⟨rfl, ⟨nd, rfl⟩⟩; refine ⟨_, rfl, ?_⟩; (try (rw [drewN_self wc]; generalize hq_ : World.drewN wc _ = wc; have n0_ : Aside0 (wc.heap[gb138]? = some (.cells #[.int .i64 0, .int .i64 0, .int .i64 0, .string (⟨#[]⟩ : ByteArray)] 23 (0, 0))) := ⟨by rw [← hq_]; exact (bS BK138.out)⟩; have n1_ : Aside0 (Below w.heap.size w wc) := ⟨by rw [← hq_]; exact (hS HB.out)⟩; clear BK138 HB hq_; have BK138 := n0_; have HB := n1_; clear n0_ n1_)); have hcz46_0 : wc.cell? ⟨gb138, 0, none⟩ = some (.int .i64 0) := (blk_cell BK138.out 0).trans rfl; have hcz46_1 : wc.cell? ⟨gb138, 1, none⟩ = some (.int .i64 0) := (blk_cell BK138.out 1).trans rfl; have hcz46_2 : wc.cell? ⟨gb138, 2, none⟩ = some (.int .i64 0) := (blk_cell BK138.out 2).trans rfl; have hcz46_3 : wc.cell? ⟨gb138, 3, none⟩ = some (.string (⟨#[]⟩ : ByteArray)) := (blk_cell BK138.out 3).trans rfl; have hfz46_0 := blk_frozen BK138.out 0; have hfz46_1 := blk_frozen BK138.out 1; have hfz46_2 := blk_frozen BK138.out 2; have hfz46_3 := blk_frozen BK138.out 3))
      refine bodyPost_ret (results_ctt rfl _ _ gb138 23 #[.int .i64 0, .int .i64 0, .int .i64 0, .string (⟨#[]⟩ : ByteArray)] (0, 0) _ rfl (bS (blk_put (bS (blk_put (bS (blk_put (bS (blk_put (bS BK138.out) 0 _ rfl)) 1 _ rfl)) 2 _ rfl)) 3 _ rfl)) Try.underlying23 rfl (by kernel_rfl)) rfl ?_
      exact ⟨by first | rfl | (simp [errW_none, errW_some] <;> rfl) | (simp [*, errW_none, errW_some] <;> rfl), by repeat (first | (with_reducible first | exact HB.out | apply below_alloc | apply pw_below_drewN | apply below_drew1 | refine below_set ?_ GE138.out) | exact HB.out)⟩

end Go.Proofs.Ytjccgdnnnlgeeaa.PA
end

section
/- What the printed functions of varint, and of its reference, answer, in plain numbers. -/
namespace Go.Proofs.Ytjccgdnnnlgeeaa.XV01
open Go.RowKit Go.Proofs.YtjccgdnnnlgeeaaW.PrintWords Go.Proofs.YtjccgdnnnlgeeaaW.PrintLast Go.Proofs.YtjccgdnnnlgeeaaW.PrintMore Go.Proofs.Ytjccgdnnnlgeeaa.PA Go.Proofs.Ytjccgdnnnlgeeaa.XVar Go.Proofs.Ytjccgdnnnlgeeaa.XBytes
set_option linter.unusedVariables false
set_option linter.unusedSimpArgs false

theorem putL : ∀ (d k : Nat) (n : Int) (xs : List Int), 0 ≤ n → n < pw (d + 1) → d < k → xs.length + d + 1 < 140737488355328 → varint_Put.l0 k n xs = some (strOfNums (xs ++ digs (d + 1) n))
 | d, 0, n, xs, _, _, hk, _ => by omega
 | d, k + 1, n, xs, h0, h1, hk, hl => by
  rw [varint_Put.l0, digs]
  by_cases c : n ≥ 128
  ·rw [if_pos c, if_pos (by omega), if_pos c, or128]
   cases d with
   | zero =>
    simp only [pw] at h1
    omega
   | succ d =>
    rw [putL d k (n / 128) _ (by omega) (by simp only [pw] at h1 ⊢; omega) (by omega) (by simp only [List.length_append, List.length_singleton]; omega), List.append_assoc, List.singleton_append]
  ·rw [if_neg c, if_pos (by omega), if_neg c, show n % 256 = n by omega]
theorem tdiv128 (n : Int) (h0 : 0 ≤ n) : Int.tdiv n 128 = n / 128 := Int.tdiv_eq_ediv_of_nonneg h0
theorem tmod128 (n : Int) (h0 : 0 ≤ n) : Int.tmod n 128 = n % 128 := Int.tmod_eq_emod_of_nonneg h0
theorem refPutL : ∀ (d k : Nat) (n : Int) (xs : List Int), 0 ≤ n → n < pw (d + 1) → n < 18446744073709551616 → d < k → xs.length + d + 1 < 140737488355328 → rollcallref01_Put.l0 k n xs = some (strOfNums (xs ++ digs (d + 1) n))
 | d, 0, n, xs, _, _, _, hk, _ => by omega
 | d, k + 1, n, xs, h0, h1, h2, hk, hl => by
  rw [rollcallref01_Put.l0, digs]
  by_cases c : n ≥ 128
  ·rw [if_pos c, if_pos (by omega), if_pos c, tdiv128 n h0, tmod128 n h0, wrap_u64 (n / 128) (by omega) (by omega), wrap_u64 (128 + n % 128) (by omega) (by omega), show (128 + n % 128) % 256 = 128 + n % 128 by omega]
   cases d with
   | zero =>
    simp only [pw] at h1
    omega
   | succ d =>
    rw [refPutL d k (n / 128) _ (by omega) (by simp only [pw] at h1 ⊢; omega) (by omega) (by omega) (by simp only [List.length_append, List.length_singleton]; omega), List.append_assoc, List.singleton_append]
  ·rw [if_neg c, if_pos (by omega), if_neg c, show n % 256 = n by omega]
/-- A number's bytes, as a text. -/
def P (n : Int) : ByteArray := strOfNums (digs 10 n)
theorem pw10 : pw 10 = 1180591620717411303424 := by decide
theorem put_f (k : Nat) (n : Int) (h0 : 0 ≤ n) (h1 : n < 18446744073709551616) (hk : 10 ≤ k) : varint_Put.f k n = some (P n) := by
 unfold varint_Put.f P
 rw [putL 9 k n [] h0 (by rw [pw10]; omega) (by omega) (by simp)]
 rfl
theorem refPut_f (k : Nat) (n : Int) (h0 : 0 ≤ n) (h1 : n < 18446744073709551616) (hk : 10 ≤ k) : rollcallref01_Put.f k n = some (P n) := by
 unfold rollcallref01_Put.f P
 rw [refPutL 9 k n [] h0 (by rw [pw10]; omega) h1 (by omega) (by simp)]
 rfl
theorem P_size (n : Int) : (P n).size = (digs 10 n).length := strOfNums_size _
theorem P_le (n : Int) : (P n).size ≤ 10 := by rw [P_size]; exact digs_len 10 n
theorem P_pos (n : Int) : 1 ≤ (P n).size := by rw [P_size]; exact digs_pos 9 n
/-- The plain function of both: what is got. -/
def G (s : ByteArray) (p : Int) : Int × Int × Int := if p < 0 ∨ p > (s.size : Int) then (0, 0, 1) else XGet.getGo s p 10 0 0
theorem get_f (s : ByteArray) (p : Int) (hs : s.size ≤ 140737488351232) : varint_Get.f s p = some (G s p) := by
 show XGet.varint_Get.f s p = some (G s p)
 unfold XGet.varint_Get.f G
 rw [if_pos hs]
/-- The plain function of both: what is taken. -/
def T (s : ByteArray) (p m : Int) : ByteArray × Int × Int :=
 if (G s p).2.2 = 0 then
  if m < 0 ∨ (G s p).1 > m then (⟨#[]⟩, 0, 3) else if (G s p).1 > s.size - (G s p).2.1 then (⟨#[]⟩, 0, 2) else (s.extract (G s p).2.1.toNat ((G s p).2.1 + (G s p).1).toNat, (G s p).2.1 + (G s p).1, 0)
 else (⟨#[]⟩, 0, (G s p).2.2)
theorem G_shape (s : ByteArray) (p : Int) : (∃ e, G s p = (0, 0, e) ∧ (e = 1 ∨ e = 2 ∨ e = 3)) ∨ ∃ n q, G s p = (n, q, 0) ∧ 0 ≤ p ∧ p < q ∧ q ≤ s.size ∧ 0 ≤ n ∧ n < 18446744073709551616 ∧ q = p + (digs 10 n).length ∧ Stands s p (digs 10 n) := by
 unfold G
 by_cases c : p < 0 ∨ p > (s.size : Int)
 ·rw [if_pos c]
  exact .inl ⟨1, rfl, by omega⟩
 ·rw [if_neg c]
  rcases get_shape s p 10 0 0 (by omega) (by omega) with ⟨e, h, he⟩ | ⟨n, q, h, h1, h2⟩
  ·exact .inl ⟨e, h, by omega⟩
  ·obtain ⟨m, hm, hn, hlt, _, hq, hs⟩ := put_of_get s p 10 0 0 n q (by omega) (by omega) (by simp [pw]) (by omega) (by omega) h
   have e : n = m := by simp [pw] at hn; omega
   subst e
   refine .inr ⟨n, q, h, by omega, by omega, h2, hm, hlt, ?_, ?_⟩
   ·simpa using hq
   ·simpa using hs
theorem wrap_i64_u64 (n : Int) (h0 : 0 ≤ n) (h1 : n ≤ 9223372036854775807) : IntKind.u64.wrap n = n := wrap_u64 n h0 (by omega)
theorem take_f (k : Nat) (s : ByteArray) (p m : Int) (hs : s.size ≤ 140737488351232) (hm : m ≤ 9223372036854775807) (hk : 30 ≤ k) : varint_Take.f k s p m = some (T s p m) := by
 obtain ⟨k, rfl⟩ : ∃ m, k = m + 1 := ⟨k - 1, by omega⟩
 unfold varint_Take.f T
 rw [get_f s p hs]
 simp only [Option.bind_some]
 by_cases c : (G s p).2.2 = 0
 ·rw [if_pos c, if_pos c]
  rcases G_shape s p with ⟨e, h, he⟩ | ⟨n, q, h, hp, h1, h2, h3, h4, _⟩
  ·rw [h] at c
   simp only at c
   omega
  ·rw [h]
   simp only
   have key : ∀ b : Bool, (b = true ↔ (m < 0 ∨ n > m)) → varint_Take.j0 (k + 1) s n q b = some (if m < 0 ∨ n > m then (⟨#[]⟩, 0, 3) else if n > s.size - q then (⟨#[]⟩, 0, 2) else (s.extract q.toNat (q + n).toNat, q + n, 0)) := by
    intro b hb
    rw [varint_Take.j0]
    by_cases c1 : m < 0 ∨ n > m
    ·rw [if_pos (hb.2 c1), if_pos c1]
    ·rw [if_neg (fun h => c1 (hb.1 h)), if_neg c1, wrap_id (s.size - q) (by omega) (by omega), wrap_u64 _ (by omega) (by omega)]
     by_cases c2 : n > s.size - q
     ·rw [if_pos c2, if_pos c2]
     ·rw [if_neg c2, if_neg c2, wrap_id n (by omega) (by omega), wrap_id (q + n) (by omega) (by omega), if_pos (by omega), if_pos (by omega), if_pos (by omega)]
   by_cases c1 : m < 0
   ·rw [if_pos c1, key true (by simp [c1])]
   ·rw [if_neg c1, key _ (by simp [c1]; rw [wrap_u64 m (by omega) (by omega)])]
 ·rw [if_neg c, if_neg c]
theorem G_put (s : ByteArray) (p n : Int) (hp : 0 ≤ p) (h0 : 0 ≤ n) (h1 : n < 18446744073709551616) (h : Stands s p (digs 10 n)) : G s p = (n, p + (P n).size, 0) := by
 unfold G
 have hl := h.1
 rw [if_neg (by omega), P_size]
 have := get_of_put s p 10 0 0 n (by omega) (by omega) (by omega) (by simp [pw]) h0 (by simpa [pw] using h1) (fun _ => rfl) (by simpa using h)
 simpa [pw] using this
theorem P_stands (n : Int) (h0 : 0 ≤ n) : Stands (P n) 0 (digs 10 n) := stands_nums _ (digs_range 10 n h0)
theorem P_in (a b : ByteArray) (n : Int) (h0 : 0 ≤ n) : Stands ((a ++ P n) ++ b) (a.size : Int) (digs 10 n) := by
 have := stands_more (stands_app (P_stands n h0) (Int.le_refl 0) a) (by omega) b
 rwa [Int.add_zero] at this
end Go.Proofs.Ytjccgdnnnlgeeaa.XV01
end

section
/- Texts one behind the other, in plain lists; what is got and taken of them. No program is in sight but the plain functions G and T. -/
namespace Go.Proofs.Ytjccgdnnnlgeeaa.XCat
open Go.RowKit Go.Proofs.YtjccgdnnnlgeeaaW.PrintWords Go.Proofs.YtjccgdnnnlgeeaaW.PrintLast Go.Proofs.Ytjccgdnnnlgeeaa.XVar Go.Proofs.Ytjccgdnnnlgeeaa.XBytes Go.Proofs.Ytjccgdnnnlgeeaa.XV01
set_option linter.unusedVariables false

def cat : List ByteArray → ByteArray
 | [] => ⟨#[]⟩
 | a :: r => a ++ cat r
theorem nil_app (a : ByteArray) : (⟨#[]⟩ : ByteArray) ++ a = a := ba_ext (by rw [app_data]; rfl)
theorem app_nil (a : ByteArray) : a ++ (⟨#[]⟩ : ByteArray) = a := ba_ext (by rw [app_data]; simp)
theorem cat_app (a b : List ByteArray) : cat (a ++ b) = cat a ++ cat b := by
 induction a with
 | nil => rw [List.nil_append]; exact (nil_app _).symm
 | cons x r ih => rw [List.cons_append, cat, ih, cat, app_assoc]
theorem cat_snoc (l : List ByteArray) (a : ByteArray) : cat (l ++ [a]) = cat l ++ a := by rw [cat_app, cat, cat, app_nil]
theorem cat_take (l : List ByteArray) (i : Nat) (h : i < l.length) : cat (l.take (i + 1)) = cat (l.take i) ++ l[i] := by
 rw [List.take_succ_eq_append_getElem h, cat_snoc]
theorem cat_size (l : List ByteArray) (B : Nat) (h : ∀ a ∈ l, a.size ≤ B) : (cat l).size ≤ l.length * B := by
 induction l with
 | nil => show (0 : Nat) ≤ _; omega
 | cons x r ih =>
  rw [cat, app_size]
  have h1 := h x (List.mem_cons_self ..)
  have h2 := ih (fun a ha => h a (List.mem_cons_of_mem _ ha))
  rw [List.length_cons, Nat.add_mul]
  omega
theorem G_end (s : ByteArray) : G s s.size = (0, 0, 2) := by
 unfold G
 rw [if_neg (by omega), XGet.getGo, if_pos (by omega)]
/-- A text behind its length. -/
def X (s : ByteArray) : ByteArray := P s.size ++ s
theorem X_size (s : ByteArray) : (X s).size = (P s.size).size + s.size := app_size ..
theorem ext_mid (a b c : ByteArray) : ((a ++ b) ++ c).extract a.size (a.size + b.size) = b := by
 apply ba_ext
 rw [ext_data, app_data, app_data, List.append_assoc, List.drop_append_of_le_length (by rw [← size_len]; omega), List.drop_of_length_le (by rw [← size_len]; omega), List.nil_append, show a.size + b.size - a.size = b.size by omega, List.take_append_of_le_length (by rw [← size_len]; omega), List.take_of_length_le (by rw [← size_len]; omega)]
theorem T_text (a s b : ByteArray) (m : Int) (h0 : (s.size : Int) ≤ m) (h2 : s.size ≤ 140737488351232) : T ((a ++ X s) ++ b) a.size m = (s, (a.size : Int) + (X s).size, 0) := by
 have e : ((a ++ X s) ++ b) = ((a ++ P s.size) ++ (s ++ b)) := by unfold X; simp only [app_assoc]
 have e2 : ((a ++ X s) ++ b) = (((a ++ P s.size) ++ s) ++ b) := by unfold X; simp only [app_assoc]
 have hG := G_put ((a ++ X s) ++ b) a.size s.size (by omega) (by omega) (by omega) (by rw [e]; exact P_in a (s ++ b) (s.size : Int) (by omega))
 unfold T
 rw [hG]
 simp only
 rw [if_pos trivial, if_neg (by omega), if_neg (by rw [app_size, app_size, X_size]; omega)]
 have e3 : ((a ++ X s) ++ b).extract ((a.size : Int) + (P s.size).size).toNat ((a.size : Int) + (P s.size).size + s.size).toNat = s := by
  rw [e2, show ((a.size : Int) + (P s.size).size).toNat = (a ++ P s.size).size by rw [app_size]; omega, show ((a.size : Int) + (P s.size).size + s.size).toNat = (a ++ P s.size).size + s.size by rw [app_size]; omega]
  exact ext_mid _ _ _
 rw [e3, X_size]
 simp only [Prod.mk.injEq, true_and, and_true]
 omega
end Go.Proofs.Ytjccgdnnnlgeeaa.XCat
end

section
/- A presence as bytes, in plain functions: what the printed functions of value, and of its reference, answer. -/
namespace Go.Proofs.Ytjccgdnnnlgeeaa.XV04
open Go.RowKit Go.Proofs.Ytjccgdnnnlgeeaa.PA Go.Proofs.YtjccgdnnnlgeeaaW.PrintWords Go.Proofs.YtjccgdnnnlgeeaaW.PrintLast Go.Proofs.Ytjccgdnnnlgeeaa.XVar Go.Proofs.Ytjccgdnnnlgeeaa.XBytes Go.Proofs.Ytjccgdnnnlgeeaa.XV01 Go.Proofs.Ytjccgdnnnlgeeaa.XCat
open Go.Proofs.Ytjccgdnnnlgeeaa.XMay (mayB numsB)
open Go.Proofs.Ytjccgdnnnlgeeaa.XOdd (odd)
set_option linter.unusedVariables false
set_option linter.unusedSimpArgs false
theorem may_nums {a0 a1 a2 : Int} {a3 : ByteArray} (h : mayB a0 a1 a2 a3 = true) : 1 ≤ a0 ∧ a0 ≤ 4 ∧ -128 ≤ a1 ∧ a1 ≤ 127 ∧ 0 ≤ a2 ∧ a2 ≤ 1099511627776 ∧ a3.size ≤ 32 := by
 unfold mayB at h
 by_cases c : numsB a0 a1 a2 a3
 ·exact c
 ·rw [if_neg c] at h; cases h
theorem may_off {a0 a1 a2 : Int} {a3 : ByteArray} (h : ¬ (1 ≤ a0 ∧ a0 ≤ 4 ∧ -128 ≤ a1 ∧ a1 ≤ 127 ∧ 0 ≤ a2 ∧ a2 ≤ 1099511627776 ∧ a3.size ≤ 32)) : mayB a0 a1 a2 a3 = false := by
 unfold mayB
 rw [if_neg (show ¬ numsB a0 a1 a2 a3 from h)]
theorem may_f (a0 a1 a2 : Int) (a3 : ByteArray) : value_May.f a0 a1 a2 a3 = some (mayB a0 a1 a2 a3) := rfl
/-- The bytes of a value that may be. -/
def Vb (a0 a1 a2 : Int) (a3 : ByteArray) : ByteArray := (strOfNums [a0, a1 + 128] ++ P a2) ++ X a3
theorem Vb_size (a0 a1 a2 : Int) (a3 : ByteArray) : (Vb a0 a1 a2 a3).size = 2 + (P a2).size + ((P a3.size).size + a3.size) := by
 unfold Vb
 rw [app_size, app_size, strOfNums_size, X_size]
 rfl
def PV (a0 a1 a2 : Int) (a3 : ByteArray) : ByteArray × Bool := if mayB a0 a1 a2 a3 = true then (Vb a0 a1 a2 a3, true) else (⟨#[]⟩, false)
abbrev R6 := Int × Int × Int × ByteArray × Int × Int
def er (e : Int) : R6 := (0, 0, 0, ⟨#[]⟩, 0, e)
def VT (s : ByteArray) (p : Int) : R6 :=
 if p < 0 ∨ p > (s.size : Int) then er 1 else if s.size - p < 2 then er 2 else
 if (G s (p + 2)).2.2 = 0 then
  if (T s (G s (p + 2)).2.1 32).2.2 = 0 then
   if mayB (bt s p) (bt s (p + 1) - 128) (G s (p + 2)).1 (T s (G s (p + 2)).2.1 32).1 = true then (bt s p, bt s (p + 1) - 128, (G s (p + 2)).1, (T s (G s (p + 2)).2.1 32).1, (T s (G s (p + 2)).2.1 32).2.1, 0) else er 3
  else er (T s (G s (p + 2)).2.1 32).2.2
 else er (G s (p + 2)).2.2
theorem wrap_bt (s : ByteArray) (i : Int) : wrap64 (bt s i) = bt s i := by have := bt_range s i; exact wrap_id _ (by omega) (by omega)
theorem take_v (k : Nat) (s : ByteArray) (p : Int) (hs : s.size ≤ 140737488351232) (hp : -9223372036854775808 ≤ p ∧ p ≤ 9223372036854775807) (hk : 31 ≤ k) : value_Take.f k s p = some (VT s p) := by
 obtain ⟨k, rfl⟩ : ∃ m, k = m + 1 := ⟨k - 1, by omega⟩
 have key : ∀ q : Bool, (q = true ↔ (p < 0 ∨ p > (s.size : Int))) → value_Take.j0 (k + 1) s p q = some (VT s p) := by
  intro q hq
  rw [value_Take.j0]
  unfold VT
  by_cases c : p < 0 ∨ p > (s.size : Int)
  ·rw [if_pos (hq.2 c), if_pos c]; rfl
  ·rw [if_neg (fun h => c (hq.1 h)), if_neg c, wrap_id (s.size - p) (by omega) (by omega)]
   by_cases c2 : (s.size : Int) - p < 2
   ·rw [if_pos c2, if_pos c2]; rfl
   ·rw [if_neg c2, if_neg c2, wrap_id (p + 2) (by omega) (by omega), get_f s (p + 2) hs]
    simp only [Option.bind_some]
    by_cases c3 : (G s (p + 2)).2.2 = 0
    ·rw [if_pos c3, if_pos c3, take_f k s _ 32 hs (by omega) (by omega)]
     simp only [Option.bind_some]
     by_cases c4 : (T s (G s (p + 2)).2.1 32).2.2 = 0
     ·have h1 := bt_range s (p + 1)
      rw [if_pos c4, if_pos c4, if_pos (by omega), if_pos (by omega), wrap_id (p + 1) (by omega) (by omega), if_pos (by omega), if_pos (by omega), wrap_bt, wrap_bt, wrap_id (bt s (p + 1) + -128) (by omega) (by omega), may_f]
      simp only [Option.bind_some]
      rw [show bt s (p + 1) + -128 = bt s (p + 1) - 128 by omega]
      rcases G_shape s (p + 2) with ⟨e, h, he⟩ | ⟨n, q, h, hp, h1, h2, h3, h4, _⟩
      ·rw [h] at c3; simp only at c3; omega
      ·rw [h]
       simp only
       have hmn : wrap64 (mn n 1099511627777) = if n ≤ 1099511627776 then n else 1099511627777 := by
        unfold mn
        split
        ·rw [wrap_id 1099511627777 (by omega) (by omega)]; split <;> omega
        ·rw [wrap_id n (by omega) (by omega)]; split <;> omega
       rw [hmn]
       by_cases c5 : n ≤ 1099511627776
       ·rw [if_pos c5]; split <;> rfl
       ·rw [if_neg c5, may_off (by omega), may_off (by omega)]; rfl
     ·rw [if_neg c4, if_neg c4]; rfl
    ·rw [if_neg c3, if_neg c3]; rfl
 unfold value_Take.f
 by_cases c : p < 0
 ·rw [if_pos c, key true (by simp [c])]
 ·rw [if_neg c, key _ (by simp [c])]
/-- What is put is taken, wherever it stands. -/
theorem VT_put (a b : ByteArray) (a0 a1 a2 : Int) (a3 : ByteArray) (h : mayB a0 a1 a2 a3 = true) : VT ((a ++ Vb a0 a1 a2 a3) ++ b) a.size = (a0, a1, a2, a3, (a.size : Int) + (Vb a0 a1 a2 a3).size, 0) := by
 obtain ⟨h1, h2, h3, h4, h5, h6, h7⟩ := may_nums h
 have hsz := Vb_size a0 a1 a2 a3
 have e1 : ((a ++ Vb a0 a1 a2 a3) ++ b) = (((a ++ strOfNums [a0, a1 + 128]) ++ P a2) ++ (X a3 ++ b)) := by unfold Vb; simp only [app_assoc]
 have e2 : ((a ++ Vb a0 a1 a2 a3) ++ b) = ((((a ++ strOfNums [a0, a1 + 128]) ++ P a2) ++ X a3) ++ b) := by unfold Vb; simp only [app_assoc]
 have e3 : ((a ++ Vb a0 a1 a2 a3) ++ b) = ((a ++ strOfNums [a0, a1 + 128]) ++ ((P a2 ++ X a3) ++ b)) := by unfold Vb; simp only [app_assoc]
 have hr : ∀ x ∈ [a0, a1 + 128], 0 ≤ x ∧ x ≤ 255 := by intro x hx; simp at hx; omega
 have hst : Stands ((a ++ Vb a0 a1 a2 a3) ++ b) (a.size : Int) [a0, a1 + 128] := by
  rw [e3]
  have := stands_more (stands_app (stands_nums _ hr) (Int.le_refl 0) a) (by omega) ((P a2 ++ X a3) ++ b)
  rwa [Int.add_zero] at this
 have b0 : bt ((a ++ Vb a0 a1 a2 a3) ++ b) (a.size : Int) = a0 := hst.head
 have b1 : bt ((a ++ Vb a0 a1 a2 a3) ++ b) ((a.size : Int) + 1) = a1 + 128 := hst.tail.head
 have n2 : (a ++ strOfNums [a0, a1 + 128]).size = a.size + 2 := by rw [app_size, strOfNums_size]; rfl
 have hG : G ((a ++ Vb a0 a1 a2 a3) ++ b) ((a.size : Int) + 2) = (a2, (a.size : Int) + 2 + (P a2).size, 0) := by
  refine G_put _ _ a2 (by omega) h5 (by omega) ?_
  rw [e1]
  have := P_in (a ++ strOfNums [a0, a1 + 128]) (X a3 ++ b) a2 h5
  rwa [n2] at this
 have n3 : ((a ++ strOfNums [a0, a1 + 128]) ++ P a2).size = a.size + 2 + (P a2).size := by rw [app_size, n2]
 have hT : T ((a ++ Vb a0 a1 a2 a3) ++ b) ((a.size : Int) + 2 + (P a2).size) 32 = (a3, (a.size : Int) + 2 + (P a2).size + (X a3).size, 0) := by
  rw [e2]
  have := T_text ((a ++ strOfNums [a0, a1 + 128]) ++ P a2) a3 b 32 (by omega) (by omega)
  rw [n3] at this
  exact this
 have hX := X_size a3
 unfold VT
 rw [if_neg (by rw [app_size, app_size]; omega), if_neg (by rw [app_size, app_size]; omega), hG]
 simp only
 rw [if_pos trivial, hT]
 simp only
 rw [if_pos trivial, b0, b1, show a1 + 128 - 128 = a1 by omega, if_pos h]
 simp only [Prod.mk.injEq, true_and, and_true]
 omega
theorem T_shape (s : ByteArray) (q m : Int) : (∃ e, T s q m = (⟨#[]⟩, 0, e) ∧ e ≠ 0) ∨ ∃ n q', T s q m = (s.extract q'.toNat (q' + n).toNat, q' + n, 0) ∧ 0 ≤ q ∧ q < q' ∧ q' + n ≤ s.size ∧ 0 ≤ n ∧ n ≤ m ∧ n < 18446744073709551616 ∧ q' = q + (digs 10 n).length ∧ Stands s q (digs 10 n) := by
 unfold T
 rcases G_shape s q with ⟨e, h, he⟩ | ⟨n, q', h, hp, h1, h2, h3, h4, hq, hst⟩
 ·rw [h]
  simp only
  rw [if_neg (by omega)]
  exact .inl ⟨e, rfl, by omega⟩
 ·rw [h]
  simp only
  rw [if_pos trivial]
  by_cases c : m < 0 ∨ n > m
  ·rw [if_pos c]; exact .inl ⟨3, rfl, by omega⟩
  ·rw [if_neg c]
   by_cases c2 : n > s.size - q'
   ·rw [if_pos c2]; exact .inl ⟨2, rfl, by omega⟩
   ·rw [if_neg c2]
    exact .inr ⟨n, q', rfl, by omega, by omega, by omega, by omega, by omega, h4, hq, hst⟩
/-- What is taken is what was put. -/
theorem VT_shape (s : ByteArray) (p : Int) (hs : s.size ≤ 140737488351232) : (∃ e, VT s p = er e ∧ e ≠ 0) ∨ ∃ a0 a1 a2 a3 q, VT s p = (a0, a1, a2, a3, q, 0) ∧ mayB a0 a1 a2 a3 = true ∧ 0 ≤ p ∧ p < q ∧ q ≤ s.size ∧ s.extract p.toNat q.toNat = Vb a0 a1 a2 a3 := by
 unfold VT
 by_cases c : p < 0 ∨ p > (s.size : Int)
 ·rw [if_pos c]; exact .inl ⟨1, rfl, by omega⟩
 rw [if_neg c]
 by_cases c2 : (s.size : Int) - p < 2
 ·rw [if_pos c2]; exact .inl ⟨2, rfl, by omega⟩
 rw [if_neg c2]
 rcases G_shape s (p + 2) with ⟨e, h, he⟩ | ⟨n, q, h, hp, h1, h2, h3, h4, hq, hst⟩
 ·rw [h]; simp only; rw [if_neg (by omega)]; exact .inl ⟨e, rfl, by omega⟩
 rw [h]
 simp only
 rw [if_pos trivial]
 rcases T_shape s q 32 with ⟨e, h', he⟩ | ⟨n', q', h', hp', h1', h2', h3', h4', h5', hq', hst'⟩
 ·rw [h']; simp only; rw [if_neg he]; exact .inl ⟨e, rfl, he⟩
 rw [h']
 simp only
 rw [if_pos trivial]
 by_cases c5 : mayB (bt s p) (bt s (p + 1) - 128) n (s.extract q'.toNat (q' + n').toNat) = true
 ·rw [if_pos c5]
  refine .inr ⟨_, _, _, _, _, rfl, c5, by omega, by omega, by omega, ?_⟩
  have hw := cut_of_stands (by omega) hst
  rw [← hq] at hw
  have hw' := cut_of_stands (by omega) hst'
  rw [← hq'] at hw'
  have hb0 := bt_range s p
  have hb1 := bt_range s (p + 1)
  have h20 : Stands s p [bt s p, bt s (p + 1)] := by
   refine ⟨by simp; omega, fun j hj => ?_⟩
   simp at hj
   rcases (show j = 0 ∨ j = 1 by omega) with rfl | rfl
   ·simp
   ·simp
  have hw0 := cut_of_stands (by omega) h20
  have hn : (s.extract q'.toNat (q' + n').toNat).size = n'.toNat := by rw [ext_size]; omega
  unfold Vb X P
  rw [hn, show ((n'.toNat : Nat) : Int) = n' by omega, ← hw, ← hw', show bt s (p + 1) - 128 + 128 = bt s (p + 1) by omega, ← hw0]
  apply ba_ext
  simp only [app_data, ext_data, List.length_cons, List.length_nil]
  generalize s.data.toList = l
  obtain ⟨p, rfl⟩ := Int.eq_ofNat_of_zero_le (show 0 ≤ p by omega)
  obtain ⟨q, rfl⟩ := Int.eq_ofNat_of_zero_le (show 0 ≤ q by omega)
  obtain ⟨q', rfl⟩ := Int.eq_ofNat_of_zero_le (show 0 ≤ q' by omega)
  obtain ⟨n', rfl⟩ := Int.eq_ofNat_of_zero_le (show 0 ≤ n' by omega)
  have key : ∀ (a b c : Nat), a ≤ b → b ≤ c → (l.drop a).take (c - a) = (l.drop a).take (b - a) ++ (l.drop b).take (c - b) := by
   intro a b c h1 h2
   rw [show c - a = (b - a) + (c - b) by omega, List.take_add, List.drop_drop, show a + (b - a) = b by omega]
  have t1 : (((p : Int) + 2).toNat) = p + 2 := by omega
  have t2 : (((q' : Int) + (n' : Int)).toNat) = q' + n' := by omega
  have t3 : (((p : Int) + ((0 + 1 + 1 : Nat) : Int)).toNat) = p + 2 := by omega
  simp only [t1, t2, t3, Int.toNat_natCast]
  rw [key p (p + 2) (q' + n') (by omega) (by omega), key (p + 2) q (q' + n') (by omega) (by omega), key q q' (q' + n') (by omega) (by omega)]
  simp only [List.append_assoc]
 ·rw [if_neg c5]; exact .inl ⟨3, rfl, by omega⟩
end Go.Proofs.Ytjccgdnnnlgeeaa.XV04
end

section
/- Tables as bytes, in plain lists: what is put is taken, what is taken is what was put. -/
namespace Go.Proofs.Ytjccgdnnnlgeeaa.XFr
open Go.RowKit Go.Proofs.Ytjccgdnnnlgeeaa.PA Go.Proofs.YtjccgdnnnlgeeaaW.PrintWords Go.Proofs.YtjccgdnnnlgeeaaW.PrintLast Go.Proofs.Ytjccgdnnnlgeeaa.XVar Go.Proofs.Ytjccgdnnnlgeeaa.XBytes Go.Proofs.Ytjccgdnnnlgeeaa.XV01 Go.Proofs.Ytjccgdnnnlgeeaa.XCat Go.Proofs.Ytjccgdnnnlgeeaa.XV04
open Go.Proofs.Ytjccgdnnnlgeeaa.XPut (nameP isB_size)
open Go.Proofs.Ytjccgdnnnlgeeaa.XSum (rowB putB rowB_size putB_size Se kSe)
open Go.Proofs.Ytjccgdnnnlgeeaa.XIdent (isB)
open Go.Proofs.Ytjccgdnnnlgeeaa.XMay (mayB)
open Go.Proofs.Ytjccgdnnnlgeeaa.XV17 (mayT mayT_iff rowOk refMayT_b refIs_f refMay_f rdS_at Srt)
set_option linter.unusedVariables false
set_option linter.unusedSimpArgs false
theorem P_eq (n : Int) : XPut.P n = P n := rfl
theorem X_eq (s : ByteArray) : XPut.X s = X s := rfl
theorem PV_eq (a b c : Int) (d : ByteArray) : XPut.PV a b c d = PV a b c d := rfl
theorem cat_eq (l : List ByteArray) : XPut.cat l = cat l := by
 induction l with
 | nil => rfl
 | cons a r ih => rw [XPut.cat, cat, ih]
/-- A row's bytes. -/
def rB (x : Se) : ByteArray := X x.f0 ++ Vb x.f1.f0 x.f1.f1 x.f1.f2 x.f1.f3
theorem rB_ok {x : Se} (h : rowOk x = true) : rowB x = rB x := by
 unfold rowOk at h
 rw [Bool.and_eq_true] at h
 unfold rowB rB nameP
 rw [if_pos h.1, PV_eq]
 unfold PV
 rw [if_pos h.2]
 rfl
theorem rows_ok {l : List Se} (h : ∀ x ∈ l, rowOk x = true) : cat (l.map rowB) = cat (l.map rB) := by
 congr 1
 exact List.map_congr_left fun x hx => rB_ok (h x hx)
/-- A table's bytes. -/
def tB (l : List Se) : ByteArray := P (l.length : Int) ++ cat (l.map rB)
theorem tB_ok {l : List Se} (h : mayT l = true) : putB l = tB l := by
 unfold putB tB
 rw [P_eq, cat_eq, rows_ok ((mayT_iff l).1 h).2.1]
theorem ext_add (s : ByteArray) (p q r : Nat) (h1 : p ≤ q) (h2 : q ≤ r) : s.extract p q ++ s.extract q r = s.extract p r := by
 apply ba_ext
 rw [app_data, ext_data, ext_data, ext_data]
 rw [show r - p = (q - p) + (r - q) by omega, List.take_add, List.drop_drop, show p + (q - p) = q by omega]
/-- A name, taken. -/
def IT (s : ByteArray) (p : Int) : ByteArray × Int × Int :=
 if (T s p 16).2.2 = 0 then (if isB (T s p 16).1 = true then ((T s p 16).1, (T s p 16).2.1, 0) else (⟨#[]⟩, 0, 3)) else (⟨#[]⟩, 0, (T s p 16).2.2)
theorem isB_16 {n : ByteArray} (h : isB n = true) : n.size ≤ 16 := isB_size h
theorem T_small (s : ByteArray) (p m : Int) (hs : s.size ≤ 140737488351232) : (T s p m).1.size ≤ s.size := by
 rcases T_shape s p m with ⟨e, h, _⟩ | ⟨n, q', h, _⟩
 ·rw [h]; exact Nat.zero_le _
 ·rw [h]
  show (s.extract _ _).size ≤ _
  rw [ext_size]; omega
theorem it_f (k : Nat) (s : ByteArray) (p : Int) (hs : s.size ≤ 140737488351232) (hk : 30 ≤ k) : ident_Take.f k s p = some (IT s p) := by
 unfold ident_Take.f IT
 rw [take_f k s p 16 hs (by omega) hk]
 simp only [Option.bind_some]
 have e : ident_Is.f (T s p 16).1 = some (isB (T s p 16).1) := by
  show XIdent.ident_Is.f _ = _
  unfold XIdent.ident_Is.f
  rw [if_pos (by have := T_small s p 16 hs; omega)]
 rw [e]
 simp only [Option.bind_some]
 split
 ·split <;> rfl
 ·rfl
theorem IT_put (a b n : ByteArray) (h : isB n = true) : IT ((a ++ X n) ++ b) a.size = (n, (a.size : Int) + (X n).size, 0) := by
 have h16 := isB_16 h
 unfold IT
 rw [T_text a n b 16 (by omega) (by omega)]
 simp only
 rw [if_pos trivial, if_pos h]
theorem IT_shape (s : ByteArray) (p : Int) (hs : s.size ≤ 140737488351232) : (∃ e, IT s p = (⟨#[]⟩, 0, e) ∧ e ≠ 0) ∨ ∃ n q, IT s p = (n, q, 0) ∧ isB n = true ∧ 0 ≤ p ∧ p < q ∧ q ≤ s.size ∧ s.extract p.toNat q.toNat = X n := by
 unfold IT
 rcases T_shape s p 16 with ⟨e, h, he⟩ | ⟨n, q', h, h0, h1, h2, h3, h4, h5, hq, hst⟩
 ·rw [h]
  simp only
  rw [if_neg he]
  exact .inl ⟨e, rfl, he⟩
 ·rw [h]
  simp only
  rw [if_pos trivial]
  by_cases c : isB (s.extract q'.toNat (q' + n).toNat) = true
  ·rw [if_pos c]
   refine .inr ⟨_, _, rfl, c, h0, by omega, h2, ?_⟩
   have hc := cut_of_stands h0 hst
   rw [← hq] at hc
   have hz : ((s.extract q'.toNat (q' + n).toNat).size : Int) = n := by rw [ext_size]; omega
   unfold X
   rw [hz]
   show _ = strOfNums (digs 10 n) ++ _
   rw [← hc]
   exact (ext_add s _ _ _ (by omega) (by omega)).symm
  ·rw [if_neg c]
   exact .inl ⟨3, rfl, by omega⟩
/-- Rows, taken. -/
def takeRows (s : ByteArray) : Nat → Int → List Se → List Se × Int × Int
 | 0, p, out => (out, p, 0)
 | n + 1, p, out =>
  if (IT s p).2.2 = 0 then
   if (VT s (IT s p).2.1).2.2.2.2.2 = 0 then takeRows s n (VT s (IT s p).2.1).2.2.2.2.1 (out ++ [⟨(IT s p).1, ⟨(VT s (IT s p).2.1).1, (VT s (IT s p).2.1).2.1, (VT s (IT s p).2.1).2.2.1, (VT s (IT s p).2.1).2.2.2.1⟩⟩])
   else ([], 0, (VT s (IT s p).2.1).2.2.2.2.2)
  else ([], 0, (IT s p).2.2)
/-- A table, taken. -/
def TT (s : ByteArray) (p : Int) : List Se × Int × Int :=
 if (G s p).2.2 = 0 then
  if (G s p).1 > 32 then ([], 0, 3)
  else if (takeRows s (G s p).1.toNat (G s p).2.1 []).2.2 = 0 then (if mayT (takeRows s (G s p).1.toNat (G s p).2.1 []).1 = true then takeRows s (G s p).1.toNat (G s p).2.1 [] else ([], 0, 3)) else takeRows s (G s p).1.toNat (G s p).2.1 []
 else ([], 0, (G s p).2.2)
theorem rB_size (x : Se) : (rB x).size = (X x.f0).size + (Vb x.f1.f0 x.f1.f1 x.f1.f2 x.f1.f3).size := app_size ..
theorem takeRows_put : ∀ (l : List Se) (a b : ByteArray) (out : List Se), (∀ x ∈ l, rowOk x = true) → takeRows ((a ++ cat (l.map rB)) ++ b) l.length a.size out = (out ++ l, (a.size : Int) + (cat (l.map rB)).size, 0)
 | [], a, b, out, _ => by
  rw [List.length_nil, takeRows, List.append_nil]
  simp [cat]
  rfl
 | x :: l, a, b, out, h => by
  have hx := h x (List.mem_cons_self ..)
  unfold rowOk at hx
  rw [Bool.and_eq_true] at hx
  have e1 : ((a ++ cat ((x :: l).map rB)) ++ b) = ((a ++ X x.f0) ++ ((Vb x.f1.f0 x.f1.f1 x.f1.f2 x.f1.f3 ++ cat (l.map rB)) ++ b)) := by
   rw [List.map_cons, cat, rB]; simp only [app_assoc]
  have e2 : ((a ++ cat ((x :: l).map rB)) ++ b) = (((a ++ X x.f0) ++ Vb x.f1.f0 x.f1.f1 x.f1.f2 x.f1.f3) ++ (cat (l.map rB) ++ b)) := by
   rw [List.map_cons, cat, rB]; simp only [app_assoc]
  have e3 : ((a ++ cat ((x :: l).map rB)) ++ b) = (((a ++ rB x) ++ cat (l.map rB)) ++ b) := by
   rw [List.map_cons, cat]; simp only [app_assoc]
  have h1 : IT ((a ++ cat ((x :: l).map rB)) ++ b) a.size = (x.f0, (a.size : Int) + (X x.f0).size, 0) := by rw [e1]; exact IT_put a _ _ hx.1
  have h2 : VT ((a ++ cat ((x :: l).map rB)) ++ b) ((a.size : Int) + (X x.f0).size) = (x.f1.f0, x.f1.f1, x.f1.f2, x.f1.f3, (a.size : Int) + (rB x).size, 0) := by
   rw [e2]
   have := VT_put (a ++ X x.f0) (cat (l.map rB) ++ b) x.f1.f0 x.f1.f1 x.f1.f2 x.f1.f3 hx.2
   rw [app_size] at this
   rw [rB_size]
   have e : ((a.size + (X x.f0).size : Nat) : Int) = (a.size : Int) + (X x.f0).size := by omega
   rw [e] at this
   rw [this]
   simp only [Prod.mk.injEq, true_and, and_true]
   omega
  rw [List.length_cons, takeRows, h1]
  simp only
  rw [if_pos trivial, h2]
  simp only
  rw [if_pos trivial, e3]
  have h3 := takeRows_put l (a ++ rB x) b (out ++ [⟨x.f0, ⟨x.f1.f0, x.f1.f1, x.f1.f2, x.f1.f3⟩⟩]) (fun y hy => h y (List.mem_cons_of_mem _ hy))
  rw [app_size] at h3
  rw [show ((a.size + (rB x).size : Nat) : Int) = (a.size : Int) + (rB x).size by omega] at h3
  rw [h3, List.map_cons, cat, app_size, List.append_assoc, List.singleton_append]
  simp only [Prod.mk.injEq, true_and, and_true]
  omega
theorem takeRows_shape (s : ByteArray) (hs : s.size ≤ 140737488351232) : ∀ (n : Nat) (p : Int) (out : List Se), 0 ≤ p → p ≤ s.size → (∃ e, takeRows s n p out = ([], 0, e) ∧ e ≠ 0) ∨ ∃ l q, takeRows s n p out = (out ++ l, q, 0) ∧ l.length = n ∧ (∀ x ∈ l, rowOk x = true) ∧ p ≤ q ∧ q ≤ s.size ∧ s.extract p.toNat q.toNat = cat (l.map rB)
 | 0, p, out, h0, h1 => .inr ⟨[], p, by rw [takeRows, List.append_nil], rfl, fun x hx => (nomatch hx), Int.le_refl _, h1, by
   apply ba_ext
   rw [ext_data]
   simp [cat]⟩
 | n + 1, p, out, h0, h1 => by
  rw [takeRows]
  rcases IT_shape s p hs with ⟨e, h, he⟩ | ⟨nm, q, h, hn, _, hlt, hle, hX⟩
  ·rw [h]
   simp only
   rw [if_neg he]
   exact .inl ⟨e, rfl, he⟩
  rw [h]
  simp only
  rw [if_pos trivial]
  rcases VT_shape s q hs with ⟨e, g, he⟩ | ⟨a0, a1, a2, a3, r, g, hm, _, hlt2, hle2, hV⟩
  ·have g' : VT s q = (0, 0, 0, ⟨#[]⟩, 0, e) := g
   rw [g']
   simp only
   rw [if_neg he]
   exact .inl ⟨e, rfl, he⟩
  rw [g]
  simp only
  rw [if_pos trivial]
  rcases takeRows_shape s hs n r (out ++ [⟨nm, ⟨a0, a1, a2, a3⟩⟩]) (by omega) hle2 with ⟨e, k, he⟩ | ⟨l, t, k, hl, hr, h5, h6, hE⟩
  ·exact .inl ⟨e, k, he⟩
  ·refine .inr ⟨⟨nm, ⟨a0, a1, a2, a3⟩⟩ :: l, t, by rw [k, List.append_assoc, List.singleton_append], by simp [hl], ?_, by omega, h6, ?_⟩
   ·intro x hx
    rcases List.mem_cons.1 hx with rfl | hx
    ·show (isB nm && mayB a0 a1 a2 a3) = true
     rw [hn, hm]; rfl
    ·exact hr x hx
   ·rw [List.map_cons, cat, ← hE]
    show _ = (X nm ++ Vb a0 a1 a2 a3) ++ _
    rw [← hX, ← hV, ext_add s _ _ _ (by omega) (by omega), ext_add s _ _ _ (by omega) (by omega)]
theorem TT_put (t : List Se) (a b : ByteArray) (h : mayT t = true) : TT ((a ++ tB t) ++ b) a.size = (t, (a.size : Int) + (tB t).size, 0) := by
 obtain ⟨h1, h2, h3⟩ := (mayT_iff t).1 h
 have e1 : ((a ++ tB t) ++ b) = ((a ++ P (t.length : Int)) ++ (cat (t.map rB) ++ b)) := by unfold tB; simp only [app_assoc]
 have e2 : ((a ++ tB t) ++ b) = (((a ++ P (t.length : Int)) ++ cat (t.map rB)) ++ b) := by unfold tB; simp only [app_assoc]
 have hG : G ((a ++ tB t) ++ b) a.size = ((t.length : Int), (a.size : Int) + (P (t.length : Int)).size, 0) := G_put _ _ _ (by omega) (by omega) (by omega) (by rw [e1]; exact P_in a _ _ (by omega))
 have hR : takeRows ((a ++ tB t) ++ b) t.length ((a.size : Int) + (P (t.length : Int)).size) [] = (t, (a.size : Int) + (tB t).size, 0) := by
  rw [e2]
  have := takeRows_put t (a ++ P (t.length : Int)) b [] h2
  rw [app_size] at this
  rw [show ((a.size + (P (t.length : Int)).size : Nat) : Int) = (a.size : Int) + (P (t.length : Int)).size by omega] at this
  rw [this, List.nil_append]
  unfold tB
  rw [app_size]
  simp only [Prod.mk.injEq, true_and, and_true]
  omega
 unfold TT
 rw [hG]
 simp only
 rw [if_pos trivial, if_neg (by omega), Int.toNat_natCast, hR]
 simp only
 rw [if_pos trivial, if_pos h]
theorem TT_shape (s : ByteArray) (p : Int) (hs : s.size ≤ 140737488351232) : (∃ e, TT s p = ([], 0, e) ∧ e ≠ 0) ∨ ∃ t q, TT s p = (t, q, 0) ∧ mayT t = true ∧ 0 ≤ p ∧ p < q ∧ q ≤ s.size ∧ s.extract p.toNat q.toNat = tB t := by
 unfold TT
 rcases G_shape s p with ⟨e, h, he⟩ | ⟨n, q, h, hp, h1, h2, h3, h4, hq, hst⟩
 ·rw [h]
  simp only
  rw [if_neg (by omega)]
  exact .inl ⟨e, rfl, by omega⟩
 rw [h]
 simp only
 rw [if_pos trivial]
 by_cases c : n > 32
 ·rw [if_pos c]; exact .inl ⟨3, rfl, by omega⟩
 rw [if_neg c]
 rcases takeRows_shape s hs n.toNat q [] (by omega) h2 with ⟨e, k, he⟩ | ⟨l, t, k, hl, hr, h5, h6, hE⟩
 ·rw [k]
  simp only
  rw [if_neg he]
  exact .inl ⟨e, rfl, he⟩
 rw [k, List.nil_append]
 simp only
 rw [if_pos trivial]
 by_cases c2 : mayT l = true
 ·rw [if_pos c2]
  refine .inr ⟨l, t, rfl, c2, hp, by omega, h6, ?_⟩
  have hc := cut_of_stands hp hst
  rw [← hq] at hc
  unfold tB
  rw [← hE, hl, Int.toNat_of_nonneg h3]
  show _ = strOfNums (digs 10 n) ++ _
  rw [← hc, ext_add s _ _ _ (by omega) (by omega)]
 ·rw [if_neg c2]; exact .inl ⟨3, rfl, by omega⟩
/-! ### what the reference answers -/
def putT (t : List Se) : ByteArray × Bool := if mayT t = true then (tB t, true) else (⟨#[]⟩, false)
theorem refPutL05 (t : List Se) (ht : t.length ≤ 40) : ∀ (d k j : Nat), j + d = t.length → d + 60 < k → rollcallref05_Put.l0 k t (P (t.length : Int) ++ cat ((t.map rowB).take j)) (j : Int) = some (P (t.length : Int) ++ cat (t.map rowB), true) := by
 intro d
 induction d with
 | zero =>
  intro k j hj hk
  obtain ⟨k, rfl⟩ : ∃ m, k = m + 1 := ⟨k - 1, by omega⟩
  rw [rollcallref05_Put.l0, if_neg (by omega), List.take_of_length_le (by simp; omega)]
 | succ d ih =>
  intro k j hj hk
  obtain ⟨k, rfl⟩ : ∃ m, k = m + 1 := ⟨k - 1, by omega⟩
  rw [rollcallref05_Put.l0, if_pos (by omega), if_pos (by omega), rdS_at t j (by omega), XPut.refPut_n k _ (by omega), XPut.refPut_v k _ _ _ _ (by omega)]
  simp only [Option.bind_some]
  have hsz := rowB_size t[j]
  have hct : (P (t.length : Int) ++ cat ((t.map rowB).take j)).size ≤ 10 + 86 * 40 := by
   have h2 : cat ((t.map rowB).take j) = cat ((t.take j).map rowB) := by rw [List.map_take]
   have h1 := putB_size (t.take j) t.length
   rw [cat_eq] at h1
   rw [h2]
   have h3 : (t.take j).length ≤ 40 := by rw [List.length_take]; omega
   have h4 : (P (t.length : Int) ++ cat ((t.take j).map rowB)).size ≤ 10 + 86 * (t.take j).length := h1
   omega
  rw [if_pos (by omega), if_pos (by rw [show ∀ a b : ByteArray, (a ++ b).size = a.size + b.size from fun a b => ByteArray.size_append]; omega), XGen.wrap_succ j (by omega)]
  have e : (P (t.length : Int) ++ cat ((t.map rowB).take j)) ++ (nameP t[j].f0).1 ++ (XPut.PV t[j].f1.f0 t[j].f1.f1 t[j].f1.f2 t[j].f1.f3).1 = P (t.length : Int) ++ cat ((t.map rowB).take (j + 1)) := by
   rw [cat_take (t.map rowB) j (by simp; omega), ByteArray.append_assoc, ByteArray.append_assoc, List.getElem_map]
   rfl
  rw [e]
  exact ih k (j + 1) (by omega) (by omega)
theorem refPutT_b (k : Nat) (t : List Se) (ht : t.length ≤ 40) (hk : 300 ≤ k) : rollcallref05_Put.f k t = some (putT t) := by
 unfold rollcallref05_Put.f putT
 rw [refMayT_b k t (by omega)]
 simp only [Option.bind_some]
 by_cases c : mayT t = true
 ·rw [if_pos c, if_pos c, wrap_u64 _ (by omega) (by omega), refPut_f k _ (by omega) (by omega) (by omega)]
  simp only [Option.bind_some]
  have := refPutL05 t ht t.length k 0 (by omega) (by omega)
  rw [List.take_zero] at this
  have e : P (t.length : Int) ++ cat [] = P (t.length : Int) := app_nil _
  rw [e] at this
  rw [show (0 : Int) = ((0 : Nat) : Int) from rfl, this, rows_ok ((mayT_iff t).1 c).2.1]
  rfl
 ·rw [if_neg c, if_neg c]
end Go.Proofs.Ytjccgdnnnlgeeaa.XFr
end

section
/- The sum by which spoilt bytes are told, in plain numbers: of unlike bytes of which at most four, one behind the other, differ, the sums are unlike. -/
namespace Go.Proofs.Ytjccgdnnnlgeeaa.XCrc
set_option linter.unusedVariables false
set_option linter.unusedSimpArgs false
/-- One bit. -/
def half (x : Nat) : Nat := if x % 2 = 1 then (x / 2) ^^^ 3988292384 else x / 2
def hn : Nat → Nat → Nat
 | 0, x => x
 | k + 1, x => hn k (half x)
/-- One byte. -/
def step (c b : Nat) : Nat := hn 8 (c ^^^ b)
/-- Some bytes. -/
def R (c : Nat) (l : List Nat) : Nat := l.foldl step c
theorem half_lt {x : Nat} (h : x < 4294967296) : half x < 4294967296 := by
 unfold half
 split
 ·exact Nat.xor_lt_two_pow (n := 32) (by omega) (by decide)
 ·omega
theorem hn_lt (k : Nat) {x : Nat} (h : x < 4294967296) : hn k x < 4294967296 := by
 induction k generalizing x with
 | zero => exact h
 | succ k ih => exact ih (half_lt h)
theorem hn_add (j k x : Nat) : hn (j + k) x = hn k (hn j x) := by
 induction j generalizing x with
 | zero => rw [Nat.zero_add]; rfl
 | succ j ih => rw [show j + 1 + k = (j + k) + 1 by omega, hn, ih]; rfl
theorem half_two (x : Nat) : half (2 * x) = x := by
 unfold half
 rw [if_neg (by omega)]
 omega
/-- Bytes as one number. -/
def word : List Nat → Nat
 | [] => 0
 | b :: l => b + 256 * word l
theorem step_lt {c b : Nat} (hc : c < 4294967296) (hb : b < 256) : step c b < 4294967296 := hn_lt 8 (Nat.xor_lt_two_pow (n := 32) hc (by omega))
theorem R_lt : ∀ (l : List Nat) {c : Nat}, c < 4294967296 → (∀ b ∈ l, b < 256) → R c l < 4294967296
 | [], c, hc, _ => hc
 | b :: l, c, hc, h => R_lt l (step_lt hc (h b (List.mem_cons_self ..))) (fun x hx => h x (List.mem_cons_of_mem _ hx))
theorem R_app (c : Nat) (l m : List Nat) : R c (l ++ m) = R (R c l) m := List.foldl_append ..
theorem pow_le4 {k : Nat} (hk : k ≤ 4) : 256 ^ k ≤ 4294967296 := by
 have := Nat.pow_le_pow_right (show 1 ≤ 256 by omega) hk
 simpa using this
/-- A sum's four bytes. -/
def le (y : Nat) : List Nat := [y % 256, y / 256 % 256, y / 65536 % 256, y / 16777216 % 256]
theorem le_lt (y : Nat) : ∀ b ∈ le y, b < 256 := by
 intro b hb
 simp only [le, List.mem_cons, List.not_mem_nil, or_false] at hb
 omega
theorem word_le {y : Nat} (h : y < 4294967296) : word (le y) = y := by
 simp only [le, word]
 omega
abbrev all : Nat := 4294967295
def sum (l : List Nat) : Nat := R all l ^^^ all
theorem sum_lt (l : List Nat) (hl : ∀ b ∈ l, b < 256) : sum l < 4294967296 := Nat.xor_lt_two_pow (n := 32) (R_lt l (by decide) hl) (by decide)
def seal_ (l : List Nat) : List Nat := l ++ le (sum l)
end Go.Proofs.Ytjccgdnnnlgeeaa.XCrc
end

section
/- crc, walked: one byte's step, a sum, a seal, and what is sealed. -/
namespace Go.Proofs.Ytjccgdnnnlgeeaa.XCrc
open Go.RowKit Go.Proofs.YtjccgdnnnlgeeaaW.PrintWords Go.Proofs.YtjccgdnnnlgeeaaW.PrintLast Go.Proofs.YtjccgdnnnlgeeaaW.PrintMore Go.Proofs.Ytjccgdnnnlgeeaa.XMem Go.Proofs.Ytjccgdnnnlgeeaa.PA
set_option linter.unusedVariables false
set_option linter.unusedSimpArgs false
theorem u32_wrap (n : Nat) (h : n < 4294967296) : IntKind.u32.wrap (n : Int) = (n : Int) := by rw [IntKind.wrap_u32]; omega
theorem u32_xor (a b : Nat) (ha : a < 4294967296) (hb : b < 4294967296) : Go.bits .xor .u32 (a : Int) (b : Int) = ((a ^^^ b : Nat) : Int) := by
 have ha' : a % 2 ^ IntKind.u32.bits = a := Nat.mod_eq_of_lt ha
 have hb' : b % 2 ^ IntKind.u32.bits = b := Nat.mod_eq_of_lt hb
 simp only [bits, BitVec.ofInt_natCast, BitVec.toNat_xor, BitVec.toNat_ofNat, ha', hb']
 exact u32_wrap _ (Nat.xor_lt_two_pow (n := 32) ha hb)
theorem u32_and (a b : Nat) (ha : a < 4294967296) (hb : b < 4294967296) : Go.bits .and .u32 (a : Int) (b : Int) = ((a &&& b : Nat) : Int) := (bits_nat .u32 32 (by decide) (fun n h0 h1 => by rw [IntKind.wrap_u32]; omega) a b (by omega) (by omega)).1
theorem half_I (x : Nat) (hx : x < 4294967296) : Go.bits .xor .u32 ((x : Int) / 2) (Go.bits .and .u32 3988292384 (-(Go.bits .and .u32 (x : Int) 1) % 4294967296)) = ((half x : Nat) : Int) := by
 have e1 : Go.bits .and .u32 (x : Int) 1 = ((x % 2 : Nat) : Int) := by
  have := u32_and x 1 hx (by decide)
  rw [Nat.and_one_is_mod] at this
  exact this
 have e2 : Go.bits .and .u32 3988292384 4294967295 = 3988292384 := by decide
 have e3 : Go.bits .and .u32 3988292384 0 = 0 := by decide
 have e4 : (x : Int) / 2 = ((x / 2 : Nat) : Int) := by omega
 rw [e1, e4]
 unfold half
 by_cases c : x % 2 = 1
 ·rw [c, if_pos rfl, show (-((1 : Nat) : Int)) % 4294967296 = 4294967295 from by decide, e2]
  exact u32_xor (x / 2) 3988292384 (by omega) (by decide)
 ·rw [if_neg c, show x % 2 = 0 by omega, show (-((0 : Nat) : Int)) % 4294967296 = 0 from by decide, e3]
  have := u32_xor (x / 2) 0 (by omega) (by decide)
  rw [Nat.xor_zero] at this
  exact this
theorem hn_succ (k x : Nat) : hn (k + 1) x = half (hn k x) := by rw [hn_add k 1]; rfl
set_option maxHeartbeats 4000000 in
set_option maxRecDepth 100000 in
theorem step_calls (c b : Nat) (hc : c < 4294967296) (hb : b < 256) (w : World) :
  Calls Try.prog 59 #[.int .u32 (c : Int), .int .u8 (b : Int)] w fun e w' => e = .returned (.int .u32 ((step c b : Nat) : Int)) ∧ w' = w := by
 have HX := Aside0.mk (u32_xor c b hc (by omega))
 have HW := Aside0.mk (u32_wrap b (by omega))
 have HC := Aside0.mk (show c ^^^ b < 4294967296 from Nat.xor_lt_two_pow (n := 32) hc (by omega))
 unfold step
 go_enter Try.func59, Try.ntmps59
 go_wp2
 go_loopw [5, 10] (fun h x wr => ∃ k : Nat, x = .int .i64 k ∧ k ≤ 8 ∧ h = .int .u32 ((hn k (c ^^^ b) : Nat) : Int) ∧ wr = w) (fun _ x _ => 8 - (intOf x).toNat)
 case atStart => exact ⟨0, rfl, Nat.zero_le _, by simp [HX.out, HW.out, hn], rfl⟩
 case round =>
  obtain ⟨k, rfl, hk, rfl, rfl⟩ := hrel
  have hlt := hn_lt k HC.out
  have hst := half_I _ hlt
  rw [← hn_succ] at hst
  have HST := Aside0.mk hst
  clear hst
  by_cases c8 : k < 8
  ·have k2 : (k : Int) < 8 := by omega
   generalize hn k (c ^^^ b) = x at HST hlt ⊢
   go_wp2
   go_roundw
   case rel => exact ⟨k + 1, by go_num, by omega, by rw [HST.out], trivial⟩
   case measure => simp [intOf]; omega
  ·obtain rfl : k = 8 := by omega
   go_wp2
   go_ret
   exact ⟨rfl, rfl⟩
/-- A text's bytes, as small numbers. -/
def nats (s : ByteArray) : List Nat := s.data.toList.map UInt8.toNat
theorem nats_lt (s : ByteArray) : ∀ b ∈ nats s, b < 256 := by
 intro b hb
 obtain ⟨x, _, rfl⟩ := List.mem_map.1 hb
 exact x.toNat_lt
theorem nats_len (s : ByteArray) : (nats s).length = s.size := by unfold nats; rw [List.length_map, Array.length_toList]; rfl
theorem bytes_nats (s : ByteArray) : bytesOf s = (nats s).map (fun n : Nat => (n : Int)) := by
 unfold bytesOf nats
 rw [List.map_map]
 rfl
theorem getD_lt {α : Type} (l : List α) (z : α) (i : Nat) (h : i < l.length) : l.getD i z = l[i] := by rw [List.getD_eq_getElem?_getD, List.getElem?_eq_getElem h]; rfl
set_option maxHeartbeats 4000000 in
set_option maxRecDepth 100000 in
theorem sum_calls (s : ByteArray) (hs : s.size ≤ 1000000) (w : World) :
  Calls Try.prog 40 #[.string s] w fun e w' => e = .returned (.int .u32 ((sum (nats s) : Nat) : Int)) ∧ Below w.heap.size w w' := by
 have HS := Aside0.mk (show Go.bits .xor .u32 ((R all (nats s) : Nat) : Int) 4294967295 = ((sum (nats s) : Nat) : Int) from u32_xor _ all (R_lt _ (by decide) (nats_lt s)) (by decide))
 generalize sum (nats s) = z at HS ⊢
 go_enter Try.func40, Try.ntmps40
 have kb := print_bytes (P := Try.prog) 9 40 5 Try.underlying9 Try.underlying40 Try.underlying5 s w
 have KR := Aside0.mk (show Kd.C (Kd.int .u8) (Lib.bytesWorld w 5 s) (some ⟨w.heap.size, 0, none⟩) s.size (bytesOf s) from Kd.C_of_reads (bytes_reads w 5 s (by omega)))
 have HB2 := Aside0.mk (bytes_below (Below.refl _ w) (Nat.le_refl _) 5 s)
 generalize Lib.bytesWorld w 5 s = W at kb KR HB2
 generalize grownCap w s.size 0 5 = cp at kb
 generalize hg : w.heap.size = g at kb KR HB2 ⊢
 have HG := Aside0.mk hg
 clear hg
 have hsi : (s.size : Int) ≤ 1000000 := by omega
 have HN := Aside0.mk (nats_len s)
 have HL := Aside0.mk (nats_lt s)
 rw [bytes_nats] at KR
 clear hs
 have HB0 := Aside0.mk (Below.refl W.heap.size W)
 go_wp2
 go_loopw [3, 10] (fun h x wr => ∃ k : Nat, x = .int .i64 k ∧ k ≤ s.size ∧ h = .int .u32 ((R all ((nats s).take k) : Nat) : Int) ∧ Aside0 (Below W.heap.size W wr)) (fun _ x _ => s.size - (intOf x).toNat)
 case atStart => exact ⟨0, rfl, Nat.zero_le _, rfl, HB0⟩
 case round =>
  clear HB0
  obtain ⟨k, rfl, hk, rfl, hbr⟩ := hrel
  have k0 : (0 : Int) ≤ (k : Int) := by omega
  have k1 : (k : Int) ≤ 1000000 := by omega
  by_cases hlt : k < s.size
  ·have k2 : (k : Int) < (s.size : Int) := by omega
   have hlt2 : k < (nats s).length := by have := HN.out; omega
   obtain ⟨ad, he, h0⟩ := Kd.at_int (Kd.C_below KR.out hbr.out) (k : Int) (by omega) (by omega)
   injection he with he
   subst he
   rw [Int.toNat_natCast, add_plain] at h0
   have e : rd ((nats s).map (fun n : Nat => (n : Int))) (k : Int) = (((nats s)[k] : Nat) : Int) := by
    unfold rd
    rw [Int.toNat_natCast, getD_lt _ _ k (by simpa using hlt2), List.getElem_map]
   rw [e] at h0
   have HST := Aside0.mk (show R all ((nats s).take (k + 1)) = step (R all ((nats s).take k)) (nats s)[k] by
    rw [List.take_succ_eq_append_getElem hlt2, R_app]; rfl)
   have hb := HL.out _ (List.getElem_mem hlt2)
   have hr := R_lt ((nats s).take k) (c := all) (by decide) (fun b h => HL.out b (List.mem_of_mem_take h))
   have HC := Aside0.mk (step_calls _ _ hr hb)
   clear e hb hr
   generalize (nats s)[k] = b at h0 HST HC
   generalize R all ((nats s).take k) = h at HST HC ⊢
   go_wp2_with (go_at_call 59; refine (HC.out _).mono ?_; rintro e w' ⟨rfl, rfl⟩)
   go_roundw
   case rel => exact ⟨k + 1, by go_num, by omega, by rw [HST.out], hbr⟩
   case measure => simp [intOf]; omega
  ·obtain rfl : k = s.size := by omega
   have k2 : (s.size : Int) ≤ (s.size : Int) := by omega
   have hz : (nats s).take s.size = nats s := by rw [← HN.out, List.take_length]
   rw [hz]
   obtain rfl := HG.out
   have HBz := below_step HB2.out hbr.out
   clear HG
   have HSS := HS.out
   go_wp2
   go_ret
   exact ⟨rfl, HBz⟩
/-! ### bytes that are written on: a slice that was made of a text -/
def Buf (B : Nat) (w : World) (v : Value) (l : List Int) : Prop :=
 ∃ b cap, v = .slice (some ⟨b, 0, none⟩) l.length cap ∧ B ≤ b ∧ b < w.heap.size ∧ l.length ≤ cap ∧ (∀ j, j < cap → (w.cell? ⟨b, j, none⟩).isSome = true ∧ w.frozen? ⟨b, j, none⟩ = false) ∧ ∀ (j : Nat) (h : j < l.length), w.cell? ⟨b, j, none⟩ = some (.int .u8 l[j])
theorem Buf.below {B : Nat} {w w1 : World} {v : Value} {l : List Int} (h : Buf B w v l) (hb : Below w.heap.size w w1) : Buf B w1 v l := by
 obtain ⟨b, cap, e, h1, h2, h3, h4, h5⟩ := h
 have hk := hb.block b h2
 refine ⟨b, cap, e, h1, Nat.lt_of_lt_of_le h2 hb.size, h3, fun j hj => ?_, fun j hj => ?_⟩
 ·have := h4 j hj
  simp only [World.cell?, World.frozen?, hk] at this ⊢
  exact this
 ·have := h5 j hj
  simp only [World.cell?, hk] at this ⊢
  exact this
theorem Buf.start (w : World) (s : ByteArray) : Buf w.heap.size (Lib.bytesWorld w 5 s) (.slice (some ⟨w.heap.size, 0, none⟩) s.size (grownCap w s.size 0 5)) (bytesOf s) := by
 have hg := grownCap_ge w s.size 0 5
 have hsz : (Lib.bytesCells w 5 s).size = grownCap w s.size 0 5 := by
  have : s.data.size = s.size := rfl
  simp [Lib.bytesCells, this]
  omega
 have hn := Lib.bytesWorld_at_new w 5 s
 refine ⟨w.heap.size, _, by rw [bytesOf_length], Nat.le_refl _, by rw [Lib.bytesWorld_size]; omega, by rw [bytesOf_length]; exact hg, fun j hj => ?_, fun j hj => ?_⟩
 ·simp only [World.cell?, World.frozen?, hn]
  constructor
  ·simp; omega
  ·simp; omega
 ·rw [Lib.bytesWorld_cell w _ s j (by rw [bytesOf_length] at hj; exact hj)]
  have h' : j < s.data.toList.length := by rw [bytesOf_length] at hj; rw [data_length]; exact hj
  simp [bytesOf, List.getD_eq_getElem?_getD, List.getElem?_eq_getElem h']
theorem Buf.append_ {ops : Array Oper} {rest : List Oper} {o : Oper} {a : Act} {Q : Exit → Act → World → Prop} {w0 W : World} {v : Value} {l : List Int} {p : Int} (s x : Operand) (S : Buf w0.heap.size W v l) (hgd : o.guard = none)
  (ho : o.op = .call { callee := .builtin .append, args := #[s, x], argTypes := #[40, 40] }) (hs : a.eval s = v) (hx : a.eval x = .slice (some ⟨W.heap.size, 0, none⟩) 1 1) (HB : Below w0.heap.size w0 W) (hl : l.length ≤ 1000000)
  (h : ∀ v1 w1, Buf w0.heap.size w1 v1 (l ++ [p]) → Below w0.heap.size w0 w1 → wpList Try.prog ops Q rest (a.put o.dst v1) w1) :
  wpList Try.prog ops Q (o :: rest) a (W.alloc (.cells #[.int .u8 p] 5)) := by
 have hb0 := below_alloc (Below.refl W.heap.size W) (Obj.cells #[Value.int .u8 p] 5)
 have S1 := S.below hb0
 have HB1 := below_step HB hb0
 obtain ⟨b, cap, rfl, h1, h2, h3, h4, h5⟩ := S1
 have hW : b < W.heap.size := by
  obtain ⟨b', cap', e, _, h2', _⟩ := S
  injection e with e
  injection e with e
  injection e with e
  subst e
  exact h2'
 obtain ⟨inf, hi, hi2⟩ := Option.map_eq_some_iff.1 info5
 simp only [Prod.mk.injEq] at hi2
 refine wpList_append_arg _ hgd s x 40 ho 5 inf (.int .u8 0) 1 1 Try.underlying40 hi hi2.1 hi2.2.1 hi2.2.2 rfl (by decide) b 0 l.length cap (l.map (Value.int .u8)) hs (by simp) ?lo ⟨W.heap.size, 0, none⟩ 1 1 [.int .u8 p] hx rfl ?c1 ?c2 ?spare ?maxLen ?bytes ?room ?grow
 case lo =>
  intro j u hj
  rw [List.getElem?_map] at hj
  rcases Nat.lt_or_ge j l.length with hlt | hge
  ·rw [List.getElem?_eq_getElem hlt] at hj
   simp only [Option.map_some, Option.some.injEq] at hj
   subst hj
   rw [Nat.zero_add]
   exact h5 j hlt
  ·rw [List.getElem?_eq_none hge] at hj; cases hj
 case c1 =>
  intro j u hj
  exact cell_one_new W (.int .u8 p) 5 j u hj
 case c2 => intro u hu; simp only [List.mem_cons, List.not_mem_nil, or_false] at hu; subst hu; rfl
 case spare =>
  intro hr j hj
  simp only [List.length_cons, List.length_nil] at hj
  obtain rfl : j = 0 := by omega
  rw [show 0 + l.length * 1 + 0 = l.length by omega]
  exact h4 l.length (by omega)
 case maxLen => simp only [maxLen]; omega
 case bytes => omega
 case room =>
  intro hr
  rw [show 0 + l.length * 1 = l.length by omega]
  refine h _ _ ⟨b, cap, by simp, h1, ?_, by simp; omega, fun j hj => ?_, fun j hj => ?_⟩ ?_
  ·simpa [World.setCells, World.setCell] using h2
  ·rw [World.frozen?_setCells]
   refine ⟨?_, (h4 j hj).2⟩
   by_cases e : j = l.length
   ·subst e
    have := World.cell?_setCells_in b [.int .u8 p] l.length (W.alloc (.cells #[.int .u8 p] 5)) (fun i hi' => by simp only [List.length_cons, List.length_nil] at hi'; obtain rfl : i = 0 := (by omega); rw [Nat.add_zero]; exact (h4 l.length (by omega)).1) 0 (by simp)
    rw [Nat.add_zero] at this
    rw [this]; rfl
   ·rw [World.cell?_setCells_out b _ _ _ _ (fun _ _ => by simp; omega)]
    exact (h4 j hj).1
  ·by_cases e : j = l.length
   ·subst e
    have := World.cell?_setCells_in b [.int .u8 p] l.length (W.alloc (.cells #[.int .u8 p] 5)) (fun i hi' => by simp only [List.length_cons, List.length_nil] at hi'; obtain rfl : i = 0 := (by omega); rw [Nat.add_zero]; exact (h4 l.length (by omega)).1) 0 (by simp)
    rw [Nat.add_zero] at this
    rw [this]; simp
   ·have hj' : j < l.length := by simp at hj; omega
    rw [World.cell?_setCells_out b _ _ _ _ (fun _ _ => by simp; omega), h5 j hj', List.getElem_append_left hj']
  ·exact below_set HB1 h1
 case grow =>
  intro hr v' w' hown hg
  have hsz := HB.size
  have hsz1 : (W.alloc (.cells #[.int .u8 p] 5)).heap.size = W.heap.size + 1 := by simp
  obtain ⟨hlen, ⟨_, h0⟩ | ⟨g, cp, cur, rfl, hgb, hgh, hn, hcm, hcs, hct⟩⟩ := hown
  ·omega
  refine h _ _ ⟨g, cp, by simp, by omega, blk_lt hgh, by simp; omega, fun j hj => ?_, fun j hj => ?_⟩ ?_
  ·simp only [World.cell?, World.frozen?, hgh]
   constructor
   ·simp; omega
   ·simp
  ·simp only [World.cell?, hgh]
   simp only [List.length_append, List.length_cons, List.length_nil] at hj
   have hj2 : j < cur.size := by omega
   have e1 : cur[j]? = (cur.toList.take ((l.length + 1) * 1))[j]? := by rw [List.getElem?_take_of_lt (by omega), Array.getElem?_toList]
   have e2 : (l.map (Value.int .u8) ++ [Value.int .u8 p])[j]? = some (.int .u8 (l ++ [p])[j]) := by
    rw [show l.map (Value.int .u8) ++ [Value.int .u8 p] = (l ++ [p]).map (Value.int .u8) by simp, List.getElem?_map, List.getElem?_eq_getElem (by simp; omega)]
    rfl
   simp only [e1, hct, e2]
   simp
  ·exact HB1.grown hg (Nat.le_trans hsz (by omega)) (fun k hk => by cases hk)
theorem Buf.C {B : Nat} {w : World} {A : Option Addr} {n c : Nat} {l : List Int} (h : Buf B w (.slice A n c) l) (hn : n = l.length) (hl : l.length ≤ 1000000) : Kd.C (Kd.int .u8) w A n l := by
 obtain ⟨b, cap, e, h1, h2, h3, h4, h5⟩ := h
 injection e with e1 e2 e3
 subst e1
 subst hn
 exact Kd.C_of_reads (d := (0 : Int)) ⟨rfl, by omega, fun _ => ⟨_, rfl, fun j hj => by rw [add_plain, h5 j hj]; simp [List.getD_eq_getElem?_getD, List.getElem?_eq_getElem hj]⟩⟩
theorem Buf.shape {B : Nat} {w : World} {v : Value} {l : List Int} (h : Buf B w v l) : ∃ b cap, v = .slice (some ⟨b, 0, none⟩) l.length cap := by
 obtain ⟨b, cap, e, _⟩ := h
 exact ⟨b, cap, e⟩
/-- A sum's bytes. -/
def sumBytes (s : ByteArray) : List Int := [(sum (nats s) : Int) % 256, (sum (nats s) : Int) / 256 % 256, (sum (nats s) : Int) / 65536 % 256, (sum (nats s) : Int) / 16777216 % 256]
/-- What is sealed. -/
def sealB (s : ByteArray) : ByteArray := s ++ strOfNums (sumBytes s)
theorem bytes_back (s : ByteArray) : strOfNums (bytesOf s) = s := by
 unfold strOfNums bytesOf
 rw [List.map_map]
 have : (s.data.toList.map ((fun n => UInt8.ofNat n.toNat) ∘ fun b => (b.toNat : Int))) = s.data.toList := by
  conv => rhs; rw [← List.map_id s.data.toList]
  apply List.map_congr_left
  intro b _
  simp
 rw [this]
theorem strs_app (a b : List Int) : strOfNums (a ++ b) = strOfNums a ++ strOfNums b := by
 apply XBytes.ba_ext
 rw [XBytes.app_data]
 simp [strOfNums]
set_option maxHeartbeats 4000000 in
set_option maxRecDepth 100000 in
theorem seal_calls (s : ByteArray) (hs : s.size ≤ 100000) (w : World) :
  Calls Try.prog 25 #[.string s] w fun e w' => e = .returned (.string (sealB s)) ∧ Below w.heap.size w w' := by
 have kb := print_bytes (P := Try.prog) 9 40 5 Try.underlying9 Try.underlying40 Try.underlying5 s w
 have S := Buf.start w s
 have HB := bytes_below (Below.refl _ w) (Nat.le_refl _) 5 s
 have HE : sealB s = strOfNums (bytesOf s ++ sumBytes s) := by rw [strs_app, bytes_back]; rfl
 unfold sumBytes at HE
 have hl := bytesOf_length s
 have HC := Aside0.mk (fun w => sum_calls s (by omega) w)
 generalize sum (nats s) = z at HE HC
 generalize sealB s = r at HE ⊢
 go_enter Try.func25, Try.ntmps25
 generalize Lib.bytesWorld w 5 s = W at kb S HB
 generalize grownCap w s.size 0 5 = cp at kb S
 generalize bytesOf s = l at S HE hl
 have S' := Aside0.mk S
 have HB' := Aside0.mk HB
 have HE' := Aside0.mk HE
 have HL' := Aside0.mk (show l.length ≤ 100000 by omega)
 clear S HB HE hl hs
 generalize (some ⟨w.heap.size, 0, none⟩ : Option Addr) = A at S' kb
 go_wp2_with (go_at_call 40; refine (HC.out _).mono ?_; rintro e w1 ⟨rfl, hb⟩; replace S' := Aside0.mk (S'.out.below hb); replace HB' := Aside0.mk (below_step HB'.out hb); clear hb)
 clear kb HC
 refine wp_loop_rounds 5 ?_
 rw [rounds_succ]
 go_wp2_with ((with_reducible refine gate_builtin (b := .append) (xs := #[.tmp 13, .tmp 19]) rfl ?_); at_builtin; refine Buf.append_ (w0 := w) (.tmp 13) (.tmp 19) S'.out rfl rfl rfl rfl HB'.out (by have := HL'.out; simp; omega) ?_; intro v1 w1 ho hb; replace S' := Aside0.mk ho; replace HB' := Aside0.mk hb; clear ho hb)
 rw [rounds_succ]
 go_wp2_with ((with_reducible refine gate_builtin (b := .append) (xs := #[.tmp 13, .tmp 19]) rfl ?_); at_builtin; refine Buf.append_ (w0 := w) (.tmp 13) (.tmp 19) S'.out rfl rfl rfl rfl HB'.out (by have := HL'.out; simp; omega) ?_; intro v1 w1 ho hb; replace S' := Aside0.mk ho; replace HB' := Aside0.mk hb; clear ho hb)
 rw [rounds_succ]
 go_wp2_with ((with_reducible refine gate_builtin (b := .append) (xs := #[.tmp 13, .tmp 19]) rfl ?_); at_builtin; refine Buf.append_ (w0 := w) (.tmp 13) (.tmp 19) S'.out rfl rfl rfl rfl HB'.out (by have := HL'.out; simp; omega) ?_; intro v1 w1 ho hb; replace S' := Aside0.mk ho; replace HB' := Aside0.mk hb; clear ho hb)
 rw [rounds_succ]
 go_wp2_with ((with_reducible refine gate_builtin (b := .append) (xs := #[.tmp 13, .tmp 19]) rfl ?_); at_builtin; refine Buf.append_ (w0 := w) (.tmp 13) (.tmp 19) S'.out rfl rfl rfl rfl HB'.out (by have := HL'.out; simp; omega) ?_; intro v1 w1 ho hb; replace S' := Aside0.mk ho; replace HB' := Aside0.mk hb; clear ho hb)
 rw [rounds_succ]
 obtain ⟨b, cp', rfl⟩ := S'.out.shape
 have hlen : (l ++ [(z : Int) % 256] ++ [(z : Int) / 256 % 256] ++ [(z : Int) / 65536 % 256] ++ [(z : Int) / 16777216 % 256]).length ≤ 1000000 := by have := HL'.out; simp; omega
 have hcs := Kd.C_string (P := Try.prog) Try.underlying40 Try.underlying5 Try.underlying9 (c := cp') (S'.out.C rfl hlen)
 have HE2 : strOfNums (l ++ [(z : Int) % 256] ++ [(z : Int) / 256 % 256] ++ [(z : Int) / 65536 % 256] ++ [(z : Int) / 16777216 % 256]) = r := by rw [HE'.out]; simp
 rw [HE2] at hcs
 clear hlen HE2 S' HE' HL'
 generalize (l ++ [(z : Int) % 256] ++ [(z : Int) / 256 % 256] ++ [(z : Int) / 65536 % 256] ++ [(z : Int) / 16777216 % 256]).length = nn at hcs ⊢
 go_wp2
 go_ret
 exact ⟨rfl, HB'.out⟩
/-- What is opened: the bytes ahead of the sum, and an error's number. -/
def openB (s : ByteArray) : ByteArray × Int :=
 if s.size < 4 then (⟨#[]⟩, 2) else if sealB (s.extract 0 (s.size - 4)) = s then (s.extract 0 (s.size - 4), 0) else (⟨#[]⟩, 4)
set_option maxHeartbeats 4000000 in
set_option maxRecDepth 100000 in
theorem open_calls (s : ByteArray) (hs : s.size ≤ 100000) (w : World) :
  Calls Try.prog 31 #[.string s] w fun e w' => e = .returned (.tuple #[.string (openB s).1, .int .i64 (openB s).2]) ∧ Below w.heap.size w w' := by
 have HB := Aside0.mk (Below.refl w.heap.size w)
 unfold openB
 by_cases c : s.size < 4
 ·rw [if_pos c]
  have c1 : (s.size : Int) < 4 := by omega
  go_enter Try.func31, Try.ntmps31
  go_wp2
  go_ret2
  exact ⟨rfl, HB.out⟩
 ·rw [if_neg c]
  have c1 : ¬ (s.size : Int) < 4 := by omega
  have c2 : IntKind.i64.wrap ((s.size : Int) - 4) = ((s.size - 4 : Nat) : Int) := by rw [IntKind.wrap_i64]; omega
  have c3 : ((s.size - 4 : Nat) : Int) ≤ (s.size : Int) := by omega
  have c4 : (0 : Int) ≤ ((s.size - 4 : Nat) : Int) := by omega
  have HC := Aside0.mk (fun w => seal_calls (s.extract 0 (s.size - 4)) (by rw [XBytes.ext_size]; omega) w)
  have ht : ((s.size - 4 : Nat) : Int).toNat = s.size - 4 := Int.toNat_natCast _
  generalize s.size - 4 = m at HC c2 c3 c4 ht ⊢
  by_cases c5 : sealB (s.extract 0 m) = s
  ·rw [if_pos c5]
   rw [c5] at HC
   go_enter Try.func31, Try.ntmps31
   go_wp2_with (go_at_call 25; refine (HC.out _).mono ?_; rintro e w1 ⟨rfl, hb⟩; replace HB := Aside0.mk (below_step HB.out hb); clear hb)
   go_ret2
   exact ⟨rfl, HB.out⟩
  ·rw [if_neg c5]
   have c6 : ((sealB (s.extract 0 m)).toList == s.toList) = false := beq_eq_false_iff_ne.mpr (fun h => c5 (XBytes.toList_inj.1 h))
   generalize sealB (s.extract 0 m) = u at HC c6
   go_enter Try.func31, Try.ntmps31
   go_wp2_with (go_at_call 25; refine (HC.out _).mono ?_; rintro e w1 ⟨rfl, hb⟩; replace HB := Aside0.mk (below_step HB.out hb); clear hb)
   go_ret2
   exact ⟨rfl, HB.out⟩
end Go.Proofs.Ytjccgdnnnlgeeaa.XCrc
end

section
/- Frames as bytes, in plain functions: which may be, how they are written and read; what is written is read, what is read is what was written. -/
namespace Go.Proofs.Ytjccgdnnnlgeeaa.XFr
open Go.RowKit Go.Proofs.Ytjccgdnnnlgeeaa.PA Go.Proofs.YtjccgdnnnlgeeaaW.PrintWords Go.Proofs.YtjccgdnnnlgeeaaW.PrintLast Go.Proofs.Ytjccgdnnnlgeeaa.XVar Go.Proofs.Ytjccgdnnnlgeeaa.XBytes Go.Proofs.Ytjccgdnnnlgeeaa.XV01 Go.Proofs.Ytjccgdnnnlgeeaa.XCat Go.Proofs.Ytjccgdnnnlgeeaa.XV04
open Go.Proofs.Ytjccgdnnnlgeeaa.XPut (nameP)
open Go.Proofs.Ytjccgdnnnlgeeaa.XSum (Se kSe)
open Go.Proofs.Ytjccgdnnnlgeeaa.XIdent (isB)
open Go.Proofs.Ytjccgdnnnlgeeaa.XMay (mayB)
open Go.Proofs.Ytjccgdnnnlgeeaa.XV17 (mayT mayT_iff rowOk refMayT_b refIs_f refMay_f rdS_at)
open Go.Proofs.Ytjccgdnnnlgeeaa.XCrc (sealB openB sumBytes nats nats_lt nats_len sum half hn step R all)
set_option linter.unusedVariables false
set_option linter.unusedSimpArgs false
abbrev Fr := S27
abbrev kFr : Kd Fr := k27
abbrev zv : S23 := ⟨0, 0, 0, ⟨#[]⟩⟩
abbrev zF : Fr := ⟨0, 0, false, ⟨#[]⟩, zv, 0, []⟩
def zV (v : S23) : Bool := v.f0 == 0 && (v.f1 == 0 && (v.f2 == 0 && (v.f3.toList == ([] : List UInt8))))
theorem e_toList : (⟨#[]⟩ : ByteArray).toList = [] := by rw [Lib.toList_data]
theorem toList_e {s : ByteArray} : s.toList = [] ↔ s = ⟨#[]⟩ := ⟨fun h => toList_inj.1 (h.trans e_toList.symm), fun h => by rw [h]; exact e_toList⟩
theorem zV_iff (v : S23) : zV v = true ↔ v = zv := by
  obtain ⟨a, b, c, d⟩ := v
  simp only [zV, Bool.and_eq_true, beq_iff_eq, zv, S23.mk.injEq, toList_e]
def mayK (f : Fr) : Bool :=
  if f.f0 = 1 then isB f.f3 && ((if f.f2 = true then mayB f.f4.f0 f.f4.f1 f.f4.f2 f.f4.f3 else zV f.f4) && (decide (f.f5 = 0) && decide (f.f6.length = 0)))
  else if f.f0 = 2 then !f.f2 && (decide (f.f3 = ⟨#[]⟩) && (zV f.f4 && decide (f.f6.length = 0)))
  else if f.f0 = 3 then !f.f2 && (decide (f.f3 = ⟨#[]⟩) && (zV f.f4 && (decide (f.f5 = 0) && mayT f.f6)))
  else if f.f0 = 4 then !f.f2 && (decide (f.f3 = ⟨#[]⟩) && (zV f.f4 && (decide (f.f5 = 0) && decide (f.f6.length = 0))))
  else false
/-- Whether a frame may be. -/
def mayF (f : Fr) : Bool := decide (0 ≤ f.f1 ∧ f.f1 ≤ 1099511627776) && mayK f
/-! ### bytes -/
def sum8 (n : Int) : ByteArray := strOfNums [n / 72057594037927936 % 256, n / 281474976710656 % 256, n / 1099511627776 % 256, n / 4294967296 % 256, n / 16777216 % 256, n / 65536 % 256, n / 256 % 256, n % 256]
def bodyF (f : Fr) : ByteArray × Bool :=
  if f.f0 = 1 then (if f.f2 = true then ((⟨#[1]⟩ ++ (nameP f.f3).1) ++ (PV f.f4.f0 f.f4.f1 f.f4.f2 f.f4.f3).1, (nameP f.f3).2 && (PV f.f4.f0 f.f4.f1 f.f4.f2 f.f4.f3).2) else (⟨#[0]⟩ ++ (nameP f.f3).1, (nameP f.f3).2))
  else if f.f0 = 2 then (sum8 f.f5, true)
  else if f.f0 = 3 then putT f.f6
  else (⟨#[]⟩, true)
def headF (f : Fr) : ByteArray := strOfNums [f.f0 % 256] ++ P f.f1
def plainF (f : Fr) : ByteArray := headF f ++ (bodyF f).1
theorem headF_size (f : Fr) : (headF f).size = 1 + (P f.f1).size := by unfold headF; rw [app_size, strOfNums_size]; rfl
theorem sum8_size (n : Int) : (sum8 n).size = 8 := by unfold sum8; rw [strOfNums_size]; rfl
/-- A sum of bytes, the first ones. -/
def num8 (s : ByteArray) (p : Int) : Nat → Int
  | 0 => 0
  | i + 1 => 256 * num8 s p i + bt s (p + i)
def rdDelta (f : Fr) (s : ByteArray) (p : Int) : Fr × Int × Bool :=
  if p = s.size ∨ bt s p > 1 then (f, 0, false)
  else if (IT s (p + 1)).2.2 = 0 ∧ bt s p = 1 then (⟨f.f0, f.f1, true, (IT s (p + 1)).1, ⟨(VT s (IT s (p + 1)).2.1).1, (VT s (IT s (p + 1)).2.1).2.1, (VT s (IT s (p + 1)).2.1).2.2.1, (VT s (IT s (p + 1)).2.1).2.2.2.1⟩, f.f5, f.f6⟩, (VT s (IT s (p + 1)).2.1).2.2.2.2.1, decide ((VT s (IT s (p + 1)).2.1).2.2.2.2.2 = 0))
  else (⟨f.f0, f.f1, decide (bt s p = 1), (IT s (p + 1)).1, f.f4, f.f5, f.f6⟩, (IT s (p + 1)).2.1, decide ((IT s (p + 1)).2.2 = 0))
def rdBody (f : Fr) (s : ByteArray) (p : Int) : Fr × Int × Bool :=
  if f.f0 = 1 then rdDelta f s p
  else if f.f0 = 2 then (if s.size - p < 8 then (f, 0, false) else (⟨f.f0, f.f1, f.f2, f.f3, f.f4, num8 s p 8, f.f6⟩, p + 8, true))
  else if f.f0 = 3 then (⟨f.f0, f.f1, f.f2, f.f3, f.f4, f.f5, (TT s p).1⟩, (TT s p).2.1, decide ((TT s p).2.2 = 0))
  else (f, p, true)
/-- What is read. -/
def readF (s : ByteArray) : Fr × Bool :=
  if s.size = 0 ∨ bt s 0 < 1 ∨ bt s 0 > 4 then (zF, false)
  else if (G s 1).2.2 ≠ 0 ∨ (G s 1).1 > 1099511627776 then (zF, false)
  else ((rdBody ⟨bt s 0, (G s 1).1, false, ⟨#[]⟩, zv, 0, []⟩ s (G s 1).2.1).1, (rdBody ⟨bt s 0, (G s 1).1, false, ⟨#[]⟩, zv, 0, []⟩ s (G s 1).2.1).2.2 && decide ((rdBody ⟨bt s 0, (G s 1).1, false, ⟨#[]⟩, zv, 0, []⟩ s (G s 1).2.1).2.1 = s.size))
/-- What the reference reads of bytes: it, or something near it. -/
def rreadF (s : ByteArray) : Fr :=
  if s.size = 0 then zF
  else if (G s 1).2.2 ≠ 0 ∨ (G s 1).1 > 1099511627776 then zF
  else if bt s 0 = 1 then
    (if (G s 1).2.1 ≥ s.size then zF
     else if (IT s ((G s 1).2.1 + 1)).2.2 = 0 then
       (if bt s (G s 1).2.1 = 1 then
         (if (VT s (IT s ((G s 1).2.1 + 1)).2.1).2.2.2.2.2 = 0 then ⟨1, (G s 1).1, true, (IT s ((G s 1).2.1 + 1)).1, ⟨(VT s (IT s ((G s 1).2.1 + 1)).2.1).1, (VT s (IT s ((G s 1).2.1 + 1)).2.1).2.1, (VT s (IT s ((G s 1).2.1 + 1)).2.1).2.2.1, (VT s (IT s ((G s 1).2.1 + 1)).2.1).2.2.2.1⟩, 0, []⟩ else zF)
        else ⟨1, (G s 1).1, false, (IT s ((G s 1).2.1 + 1)).1, zv, 0, []⟩)
     else zF)
  else if bt s 0 = 2 then ⟨2, (G s 1).1, false, ⟨#[]⟩, zv, num8 s (G s 1).2.1 (min 8 (s.size - (G s 1).2.1).toNat), []⟩
  else if bt s 0 = 3 then (if (TT s (G s 1).2.1).2.2 = 0 then ⟨3, (G s 1).1, false, ⟨#[]⟩, zv, 0, (TT s (G s 1).2.1).1⟩ else zF)
  else ⟨bt s 0, (G s 1).1, false, ⟨#[]⟩, zv, 0, []⟩
/-! ### what is written is read -/
theorem head_G (f : Fr) (b : ByteArray) (h0 : 0 ≤ f.f1) (h1 : f.f1 ≤ 1099511627776) : G (headF f ++ b) 1 = (f.f1, ((headF f).size : Int), 0) := by
  have e : headF f ++ b = (strOfNums [f.f0 % 256] ++ P f.f1) ++ b := rfl
  have h := G_put (headF f ++ b) 1 f.f1 (by omega) h0 (by omega) (by
    rw [e]
    have := P_in (strOfNums [f.f0 % 256]) b f.f1 h0
    rw [strOfNums_size] at this
    exact this)
  rw [h, headF_size]
  simp only [Prod.mk.injEq, true_and, and_true]
  omega
theorem head_bt (f : Fr) (b : ByteArray) (h0 : 1 ≤ f.f0) (h1 : f.f0 ≤ 4) : bt (headF f ++ b) 0 = f.f0 := by
  have e : headF f ++ b = strOfNums [f.f0 % 256] ++ (P f.f1 ++ b) := by unfold headF; rw [app_assoc]
  rw [e, bt_app_left _ _ 0 (by omega) (by rw [strOfNums_size]; simp)]
  have := bt_nums [f.f0 % 256] (by intro x hx; simp at hx; omega) 0 (by simp)
  rw [show ((0 : Nat) : Int) = 0 from rfl] at this
  rw [this]
  simp
  omega
theorem mid_bt (a b : ByteArray) (x : Int) (h0 : 0 ≤ x) (h1 : x ≤ 255) : bt (a ++ (strOfNums [x] ++ b)) a.size = x := by
  have := bt_app_right a (strOfNums [x] ++ b) 0 (by omega)
  rw [Int.add_zero] at this
  rw [this, bt_app_left _ _ 0 (by omega) (by rw [strOfNums_size]; simp)]
  have := bt_nums [x] (by intro y hy; simp at hy; omega) 0 (by simp)
  exact this
theorem one_s : (⟨#[1]⟩ : ByteArray) = strOfNums [1] := by decide
theorem zero_s : (⟨#[0]⟩ : ByteArray) = strOfNums [0] := by decide
theorem sum8_bt (a : ByteArray) (n : Int) (h0 : 0 ≤ n) (h1 : n < 18446744073709551616) : num8 (a ++ sum8 n) a.size 8 = n := by
  have hb : ∀ (j : Nat) (h : j < 8), bt (a ++ sum8 n) ((a.size : Int) + j) = ([n / 72057594037927936 % 256, n / 281474976710656 % 256, n / 1099511627776 % 256, n / 4294967296 % 256, n / 16777216 % 256, n / 65536 % 256, n / 256 % 256, n % 256] : List Int)[j]'(by simpa using h) := by
    intro j h
    rw [bt_app_right a _ j (by omega)]
    exact bt_nums _ (by intro x hx; simp at hx; omega) j (by simpa using h)
  have b0 := hb 0 (by omega)
  have b1 := hb 1 (by omega)
  have b2 := hb 2 (by omega)
  have b3 := hb 3 (by omega)
  have b4 := hb 4 (by omega)
  have b5 := hb 5 (by omega)
  have b6 := hb 6 (by omega)
  have b7 := hb 7 (by omega)
  simp only [List.getElem_cons_zero, List.getElem_cons_succ] at b0 b1 b2 b3 b4 b5 b6 b7
  simp only [num8, b0, b1, b2, b3, b4, b5, b6, b7]
  omega
theorem body1 {f : Fr} (h : mayK f = true) (h0 : f.f0 = 1) : f = ⟨1, f.f1, f.f2, f.f3, f.f4, 0, []⟩ ∧ isB f.f3 = true ∧ ((f.f2 = true ∧ mayB f.f4.f0 f.f4.f1 f.f4.f2 f.f4.f3 = true) ∨ (f.f2 = false ∧ f.f4 = zv)) := by
  unfold mayK at h
  rw [if_pos h0] at h
  simp only [Bool.and_eq_true, decide_eq_true_eq] at h
  obtain ⟨h1, h2, h3, h4⟩ := h
  obtain ⟨a, b, c, d, e, g, l⟩ := f
  simp only at h0 h1 h2 h3 h4 ⊢
  subst h0
  subst h3
  obtain rfl := List.length_eq_zero_iff.1 h4
  refine ⟨rfl, h1, ?_⟩
  cases c with
  | true => exact .inl ⟨rfl, by simpa using h2⟩
  | false => exact .inr ⟨rfl, (zV_iff e).1 (by simpa using h2)⟩
theorem body2 {f : Fr} (h : mayK f = true) (h0 : f.f0 = 2) : f = ⟨2, f.f1, false, ⟨#[]⟩, zv, f.f5, []⟩ := by
  unfold mayK at h
  rw [if_neg (by omega), if_pos h0] at h
  simp only [Bool.and_eq_true, decide_eq_true_eq, Bool.not_eq_true', zV_iff] at h
  obtain ⟨h1, h2, h3, h4⟩ := h
  obtain ⟨a, b, c, d, e, g, l⟩ := f
  simp only at h0 h1 h2 h3 h4 ⊢
  obtain rfl := List.length_eq_zero_iff.1 h4
  rw [h0, h1, h2, h3]
theorem body3 {f : Fr} (h : mayK f = true) (h0 : f.f0 = 3) : f = ⟨3, f.f1, false, ⟨#[]⟩, zv, 0, f.f6⟩ ∧ mayT f.f6 = true := by
  unfold mayK at h
  rw [if_neg (by omega), if_neg (by omega), if_pos h0] at h
  simp only [Bool.and_eq_true, decide_eq_true_eq, Bool.not_eq_true', zV_iff] at h
  obtain ⟨h1, h2, h3, h4, h5⟩ := h
  obtain ⟨a, b, c, d, e, g, l⟩ := f
  simp only at h0 h1 h2 h3 h4 h5 ⊢
  rw [h0, h1, h2, h3, h4]
  exact ⟨rfl, h5⟩
theorem body4 {f : Fr} (h : mayK f = true) (h0 : f.f0 = 4) : f = ⟨4, f.f1, false, ⟨#[]⟩, zv, 0, []⟩ := by
  unfold mayK at h
  rw [if_neg (by omega), if_neg (by omega), if_neg (by omega), if_pos h0] at h
  simp only [Bool.and_eq_true, decide_eq_true_eq, Bool.not_eq_true', zV_iff] at h
  obtain ⟨h1, h2, h3, h4, h5⟩ := h
  obtain ⟨a, b, c, d, e, g, l⟩ := f
  simp only at h0 h1 h2 h3 h4 h5 ⊢
  obtain rfl := List.length_eq_zero_iff.1 h5
  rw [h0, h1, h2, h3, h4]
theorem mayK_kind {f : Fr} (h : mayK f = true) : f.f0 = 1 ∨ f.f0 = 2 ∨ f.f0 = 3 ∨ f.f0 = 4 := by
  unfold mayK at h
  by_cases c1 : f.f0 = 1
  · exact .inl c1
  by_cases c2 : f.f0 = 2
  · exact .inr (.inl c2)
  by_cases c3 : f.f0 = 3
  · exact .inr (.inr (.inl c3))
  by_cases c4 : f.f0 = 4
  · exact .inr (.inr (.inr c4))
  rw [if_neg c1, if_neg c2, if_neg c3, if_neg c4] at h
  cases h
theorem mayF_iff (f : Fr) : mayF f = true ↔ (0 ≤ f.f1 ∧ f.f1 ≤ 1099511627776) ∧ mayK f = true := by unfold mayF; rw [Bool.and_eq_true, decide_eq_true_iff]
theorem nameP_ok {n : ByteArray} (h : isB n = true) : nameP n = (X n, true) := by unfold nameP; rw [if_pos h]; rfl
theorem PV_ok {a b c : Int} {d : ByteArray} (h : mayB a b c d = true) : PV a b c d = (Vb a b c d, true) := by unfold PV; rw [if_pos h]
/-- The delta's fields, wherever they stand behind a head. -/
theorem delta_on (a n : ByteArray) (v0 v1 v2 : Int) (v3 : ByteArray) (hn : isB n = true) (hv : mayB v0 v1 v2 v3 = true) :
    let s := a ++ ((⟨#[1]⟩ ++ X n) ++ Vb v0 v1 v2 v3)
    bt s a.size = 1 ∧ (a.size : Int) < s.size ∧ IT s ((a.size : Int) + 1) = (n, (a.size : Int) + 1 + (X n).size, 0) ∧ VT s ((a.size : Int) + 1 + (X n).size) = (v0, v1, v2, v3, (s.size : Int), 0) := by
  intro s
  have e1 : s = a ++ (strOfNums [1] ++ (X n ++ Vb v0 v1 v2 v3)) := by show a ++ ((⟨#[1]⟩ ++ X n) ++ Vb v0 v1 v2 v3) = _; rw [one_s, app_assoc]
  have e2 : s = ((a ++ ⟨#[1]⟩) ++ X n) ++ Vb v0 v1 v2 v3 := by show a ++ ((⟨#[1]⟩ ++ X n) ++ Vb v0 v1 v2 v3) = _; simp only [app_assoc]
  have e3 : s = (((a ++ ⟨#[1]⟩) ++ X n) ++ Vb v0 v1 v2 v3) ++ ⟨#[]⟩ := by rw [app_nil]; exact e2
  have hz : (a ++ (⟨#[1]⟩ : ByteArray)).size = a.size + 1 := app_size ..
  have hs : s.size = a.size + 1 + (X n).size + (Vb v0 v1 v2 v3).size := by rw [e2, app_size, app_size, hz]
  refine ⟨by rw [e1]; exact mid_bt _ _ _ (by omega) (by omega), by omega, ?_, ?_⟩
  · have := IT_put (a ++ ⟨#[1]⟩) (Vb v0 v1 v2 v3) n hn
    rw [hz] at this
    rw [e2]
    exact_mod_cast this
  · have := VT_put ((a ++ ⟨#[1]⟩) ++ X n) ⟨#[]⟩ v0 v1 v2 v3 hv
    rw [app_size, hz, ← e3] at this
    rw [hs]
    exact_mod_cast this
theorem delta_off (a n : ByteArray) (hn : isB n = true) :
    let s := a ++ (⟨#[0]⟩ ++ X n)
    bt s a.size = 0 ∧ (a.size : Int) < s.size ∧ IT s ((a.size : Int) + 1) = (n, (s.size : Int), 0) := by
  intro s
  have e1 : s = a ++ (strOfNums [0] ++ X n) := by show a ++ (⟨#[0]⟩ ++ X n) = _; rw [zero_s]
  have e3 : s = ((a ++ ⟨#[0]⟩) ++ X n) ++ ⟨#[]⟩ := by rw [app_nil, app_assoc]
  have hz : (a ++ (⟨#[0]⟩ : ByteArray)).size = a.size + 1 := app_size ..
  have hs : s.size = a.size + 1 + (X n).size := by rw [e3, app_nil, app_size, hz]
  refine ⟨by rw [e1]; exact mid_bt _ _ _ (by omega) (by omega), by omega, ?_⟩
  have := IT_put (a ++ ⟨#[0]⟩) ⟨#[]⟩ n hn
  rw [hz, ← e3] at this
  rw [hs]
  exact_mod_cast this
theorem read_write {f : Fr} (h : mayF f = true) (h5 : 0 ≤ f.f5 ∧ f.f5 < 18446744073709551616) : readF (plainF f) = (f, true) ∧ rreadF (plainF f) = f := by
  obtain ⟨⟨s0, s1⟩, hk⟩ := (mayF_iff f).1 h
  have hkind := mayK_kind hk
  have hG := head_G f (bodyF f).1 s0 s1
  have hb := head_bt f (bodyF f).1 (by omega) (by omega)
  have hsz : (plainF f).size = (headF f).size + (bodyF f).1.size := app_size ..
  have hh := headF_size f
  have hP := P_pos f.f1
  change G (plainF f) 1 = _ at hG
  change bt (plainF f) 0 = _ at hb
  unfold readF rreadF
  rw [hG, hb]
  simp only
  rw [if_neg (by omega), if_neg (by omega), if_neg (by omega), if_neg (by omega)]
  rcases hkind with c | c | c | c
  · obtain ⟨e, hn, hv⟩ := body1 hk c
    rcases hv with ⟨o, hv⟩ | ⟨o, hv⟩
    · have eb : (bodyF f).1 = (⟨#[1]⟩ ++ X f.f3) ++ Vb f.f4.f0 f.f4.f1 f.f4.f2 f.f4.f3 := by
        unfold bodyF; rw [if_pos c, if_pos o, nameP_ok hn, PV_ok hv]
      obtain ⟨h1, h2, h3, h4⟩ := delta_on (headF f) f.f3 f.f4.f0 f.f4.f1 f.f4.f2 f.f4.f3 hn hv
      rw [← eb] at h1 h2 h3 h4
      change bt (plainF f) _ = _ at h1
      change _ < ((plainF f).size : Int) at h2
      change IT (plainF f) _ = _ at h3
      change VT (plainF f) _ = (_, _, _, _, ((plainF f).size : Int), _) at h4
      unfold rdBody
      simp only
      rw [if_pos c, if_pos c]
      unfold rdDelta
      simp only [h1, h3, h4]
      rw [if_neg (by omega), if_pos ⟨trivial, trivial⟩, if_neg (by omega), if_pos trivial, if_pos trivial]
      simp only [decide_true, Bool.and_true]
      rw [c]
      have e' := e
      rw [o] at e'
      exact ⟨Prod.ext e'.symm rfl, e'.symm⟩
    · have eb : (bodyF f).1 = ⟨#[0]⟩ ++ X f.f3 := by
        unfold bodyF; rw [if_pos c, if_neg (by rw [o]; decide), nameP_ok hn]
      obtain ⟨h1, h2, h3⟩ := delta_off (headF f) f.f3 hn
      rw [← eb] at h1 h2 h3
      change bt (plainF f) _ = _ at h1
      change _ < ((plainF f).size : Int) at h2
      change IT (plainF f) _ = (_, ((plainF f).size : Int), _) at h3
      unfold rdBody
      simp only
      rw [if_pos c, if_pos c]
      unfold rdDelta
      simp only [h1, h3]
      rw [if_neg (by omega), if_neg (by omega), if_neg (by omega), if_pos trivial, if_neg (by omega)]
      simp only [decide_true, Bool.and_true]
      rw [c, show decide ((0 : Int) = 1) = false from rfl]
      have e' := e
      rw [o, hv] at e'
      exact ⟨Prod.ext e'.symm rfl, e'.symm⟩
  · have e := body2 hk c
    have eb : (bodyF f).1 = sum8 f.f5 := by unfold bodyF; rw [if_neg (by omega), if_pos c]
    have h8 := sum8_bt (headF f) f.f5 h5.1 h5.2
    rw [← eb] at h8
    change num8 (plainF f) _ 8 = _ at h8
    have h8s := sum8_size f.f5
    rw [← eb] at h8s
    unfold rdBody
    simp only
    rw [if_neg (by omega), if_pos c, if_neg (by omega), if_neg (by omega), if_pos c, show min 8 (((plainF f).size : Int) - (headF f).size).toNat = 8 by omega, h8]
    simp only
    rw [decide_eq_true (show ((headF f).size : Int) + 8 = ((plainF f).size : Int) by omega), c]
    exact ⟨Prod.ext e.symm rfl, e.symm⟩
  · obtain ⟨e, hm⟩ := body3 hk c
    have eb : (bodyF f).1 = tB f.f6 := by unfold bodyF putT; rw [if_neg (by omega), if_neg (by omega), if_pos c, if_pos hm]
    have ht := TT_put f.f6 (headF f) ⟨#[]⟩ hm
    rw [app_nil, ← eb] at ht
    change TT (plainF f) _ = _ at ht
    unfold rdBody
    simp only
    rw [if_neg (by omega), if_neg (by omega), if_pos c, if_neg (by omega), if_neg (by omega), if_pos c, ht]
    simp only
    rw [if_pos trivial, decide_eq_true (show ((headF f).size : Int) + ((bodyF f).1.size : Int) = ((plainF f).size : Int) by omega), c]
    simp only [decide_true, Bool.and_true]
    exact ⟨Prod.ext e.symm rfl, e.symm⟩
  · have e := body4 hk c
    have eb : (bodyF f).1 = ⟨#[]⟩ := by unfold bodyF; rw [if_neg (by omega), if_neg (by omega), if_neg (by omega)]
    have hz : (bodyF f).1.size = 0 := by rw [eb]; rfl
    unfold rdBody
    simp only
    rw [if_neg (by omega), if_neg (by omega), if_neg (by omega), if_neg (by omega), if_neg (by omega), if_neg (by omega)]
    simp only
    rw [decide_eq_true (show ((headF f).size : Int) = ((plainF f).size : Int) by omega), c]
    exact ⟨Prod.ext e.symm rfl, e.symm⟩
/-! ### what is read is what was written -/
theorem ext_one (s : ByteArray) (p : Int) (h0 : 0 ≤ p) (h1 : p < s.size) : s.extract p.toNat (p + 1).toNat = strOfNums [bt s p] := by
  have := cut_of_stands (s := s) (l := [bt s p]) h0 ⟨by simp; omega, fun j hj => by simp at hj; subst hj; simp⟩
  simpa using this
theorem ext_eight (s : ByteArray) (p : Int) (h0 : 0 ≤ p) (h1 : p + 8 ≤ s.size) : s.extract p.toNat (p + 8).toNat = sum8 (num8 s p 8) ∧ 0 ≤ num8 s p 8 ∧ num8 s p 8 < 18446744073709551616 := by
  have := cut_of_stands (s := s) (l := [bt s p, bt s (p + 1), bt s (p + 2), bt s (p + 3), bt s (p + 4), bt s (p + 5), bt s (p + 6), bt s (p + 7)]) h0 ⟨by simp; omega, fun j hj => by
    simp only [List.length_cons, List.length_nil] at hj
    rcases (by omega : j = 0 ∨ j = 1 ∨ j = 2 ∨ j = 3 ∨ j = 4 ∨ j = 5 ∨ j = 6 ∨ j = 7) with rfl | rfl | rfl | rfl | rfl | rfl | rfl | rfl <;> simp⟩
  have e : (p + (([bt s p, bt s (p + 1), bt s (p + 2), bt s (p + 3), bt s (p + 4), bt s (p + 5), bt s (p + 6), bt s (p + 7)] : List Int).length : Int)) = p + 8 := by simp
  rw [e] at this
  rw [this]
  have r0 := bt_range s p
  have r1 := bt_range s (p + 1)
  have r2 := bt_range s (p + 2)
  have r3 := bt_range s (p + 3)
  have r4 := bt_range s (p + 4)
  have r5 := bt_range s (p + 5)
  have r6 := bt_range s (p + 6)
  have r7 := bt_range s (p + 7)
  have en : num8 s p 8 = ((((((bt s p * 256 + bt s (p + 1)) * 256 + bt s (p + 2)) * 256 + bt s (p + 3)) * 256 + bt s (p + 4)) * 256 + bt s (p + 5)) * 256 + bt s (p + 6)) * 256 + bt s (p + 7) := by
    simp only [num8]
    simp only [Int.natCast_zero, Int.add_zero, show ((1 : Nat) : Int) = 1 from rfl, show ((2 : Nat) : Int) = 2 from rfl, show ((3 : Nat) : Int) = 3 from rfl, show ((4 : Nat) : Int) = 4 from rfl, show ((5 : Nat) : Int) = 5 from rfl, show ((6 : Nat) : Int) = 6 from rfl, show ((7 : Nat) : Int) = 7 from rfl]
    omega
  rw [en]
  generalize bt s p = b0 at *
  generalize bt s (p + 1) = b1 at *
  generalize bt s (p + 2) = b2 at *
  generalize bt s (p + 3) = b3 at *
  generalize bt s (p + 4) = b4 at *
  generalize bt s (p + 5) = b5 at *
  generalize bt s (p + 6) = b6 at *
  generalize bt s (p + 7) = b7 at *
  refine ⟨?_, by omega, by omega⟩
  unfold sum8
  congr 1
  simp only [List.cons.injEq, and_true]
  omega
theorem ext_all (s : ByteArray) : s.extract 0 s.size = s := by
  apply ba_ext
  rw [ext_data, List.drop_zero, Nat.sub_zero, List.take_of_length_le (by rw [← size_len]; omega)]
theorem ext_to_end (s : ByteArray) (p : Nat) (h : p ≤ s.size) : s.extract 0 p ++ s.extract p s.size = s := by rw [ext_add s 0 p s.size (by omega) h, ext_all]
theorem write_read {s : ByteArray} {f : Fr} (hs : s.size ≤ 140737488351232) (h : readF s = (f, true)) : mayF f = true ∧ plainF f = s ∧ 0 ≤ f.f5 ∧ f.f5 < 18446744073709551616 := by
  unfold readF at h
  by_cases c0 : s.size = 0 ∨ bt s 0 < 1 ∨ bt s 0 > 4
  · rw [if_pos c0] at h; exact absurd (Prod.mk.inj h).2 (by decide)
  rw [if_neg c0] at h
  by_cases c1 : (G s 1).2.2 ≠ 0 ∨ (G s 1).1 > 1099511627776
  · rw [if_pos c1] at h; exact absurd (Prod.mk.inj h).2 (by decide)
  rw [if_neg c1] at h
  rcases G_shape s 1 with ⟨e, hG, he⟩ | ⟨n, q, hG, hp, q1, q2, n0, n1, hq, hst⟩
  · rw [hG] at c1; simp only at c1; omega
  rw [hG] at c1 h
  simp only at c1 h
  obtain ⟨hf, ht⟩ := Prod.mk.inj h
  rw [Bool.and_eq_true, decide_eq_true_eq] at ht
  obtain ⟨hi, hto⟩ := ht
  have hd : s.extract 0 q.toNat = headF ⟨bt s 0, n, f.f2, f.f3, f.f4, f.f5, f.f6⟩ := by
    have hc := cut_of_stands (by omega) hst
    rw [← hq] at hc
    have h1 := ext_one s 0 (by omega) (by omega)
    have r := bt_range s 0
    rw [← ext_add s 0 1 q.toNat (by omega) (by omega)]
    show _ = strOfNums [bt s 0 % 256] ++ strOfNums (digs 10 n)
    rw [← hc, show bt s 0 % 256 = bt s 0 by omega, ← h1]
    rfl
  have hq0 : q.toNat ≤ s.size := by omega
  have hall := ext_to_end s q.toNat hq0
  unfold rdBody at hf hi hto
  simp only at hf hi hto
  by_cases k1 : bt s 0 = 1
  · rw [if_pos k1] at hf hi hto
    unfold rdDelta at hf hi hto
    simp only at hf hi hto
    by_cases c2 : q = s.size ∨ bt s q > 1
    · rw [if_pos c2] at hi; cases hi
    rw [if_neg c2] at hf hi hto
    by_cases c3 : (IT s (q + 1)).2.2 = 0 ∧ bt s q = 1
    · rw [if_pos c3] at hf hi hto
      simp only [decide_eq_true_eq] at hi
      rcases IT_shape s (q + 1) hs with ⟨e, g, he⟩ | ⟨nm, r, g, hn, _, r1, r2, hX⟩
      · rw [g] at c3; simp only at c3; omega
      rw [g] at hf hi hto
      simp only at hf hi hto
      rcases VT_shape s r hs with ⟨e, v, he⟩ | ⟨a0, a1, a2, a3, t, v, hm, _, t1, t2, hV⟩
      · have v' : VT s r = (0, 0, 0, ⟨#[]⟩, 0, e) := v
        rw [v'] at hi; simp only at hi; exact absurd hi he
      rw [v] at hf hto
      simp only at hf hto
      subst hf
      have hb := ext_one s q (by omega) (by omega)
      rw [c3.2, ← one_s] at hb
      refine ⟨?_, ?_, by simp only; omega, by simp only; omega⟩
      · rw [mayF_iff]
        refine ⟨by simp only; omega, ?_⟩
        unfold mayK
        simp only
        rw [if_pos k1, hn, hm]
        rfl
      · have eb : (bodyF ⟨bt s 0, n, true, nm, ⟨a0, a1, a2, a3⟩, 0, []⟩).1 = (⟨#[1]⟩ ++ X nm) ++ Vb a0 a1 a2 a3 := by
          unfold bodyF; simp only; rw [if_pos k1, if_pos trivial, nameP_ok hn, PV_ok hm]
        unfold plainF
        rw [eb, ← hb, ← hX, ← hV, ext_add s _ _ _ (by omega) (by omega), ext_add s _ _ _ (by omega) (by omega)]
        have : t.toNat = s.size := by omega
        rw [this]
        have h2 : headF ⟨bt s 0, n, true, nm, ⟨a0, a1, a2, a3⟩, 0, []⟩ = s.extract 0 q.toNat := hd.symm
        rw [h2, hall]
    · rw [if_neg c3] at hf hi hto
      simp only [decide_eq_true_eq] at hi
      have hq1 : bt s q = 0 := by have := bt_range s q; omega
      rcases IT_shape s (q + 1) hs with ⟨e, g, he⟩ | ⟨nm, r, g, hn, _, r1, r2, hX⟩
      · rw [g] at hi; simp only at hi; exact absurd hi he
      rw [g] at hf hto
      simp only at hf hto
      rw [hq1, show decide ((0 : Int) = 1) = false from rfl] at hf
      subst hf
      have hb := ext_one s q (by omega) (by omega)
      rw [hq1, ← zero_s] at hb
      refine ⟨?_, ?_, by simp only; omega, by simp only; omega⟩
      · rw [mayF_iff]
        refine ⟨by simp only; omega, ?_⟩
        unfold mayK
        simp only
        rw [if_pos k1, hn, if_neg (by decide), (zV_iff _).2 rfl]
        rfl
      · have eb : (bodyF ⟨bt s 0, n, false, nm, zv, 0, []⟩).1 = ⟨#[0]⟩ ++ X nm := by
          unfold bodyF; simp only; rw [if_pos k1, if_neg (by decide), nameP_ok hn]
        unfold plainF
        rw [eb, ← hb, ← hX, ext_add s _ _ _ (by omega) (by omega)]
        have : r.toNat = s.size := by omega
        rw [this]
        have h2 : headF ⟨bt s 0, n, false, nm, zv, 0, []⟩ = s.extract 0 q.toNat := hd.symm
        rw [h2, hall]
  rw [if_neg k1] at hf hi hto
  by_cases k2 : bt s 0 = 2
  · rw [if_pos k2] at hf hi hto
    by_cases c2 : (s.size : Int) - q < 8
    · rw [if_pos c2] at hi; cases hi
    rw [if_neg c2] at hf hto
    simp only at hf hto
    obtain ⟨h8, h80, h81⟩ := ext_eight s q (by omega) (by omega)
    subst hf
    refine ⟨?_, ?_, h80, h81⟩
    · rw [mayF_iff]
      refine ⟨by simp only; omega, ?_⟩
      unfold mayK
      simp only
      rw [if_neg k1, if_pos k2, (zV_iff _).2 rfl]
      rfl
    · have eb : (bodyF ⟨bt s 0, n, false, ⟨#[]⟩, zv, num8 s q 8, []⟩).1 = sum8 (num8 s q 8) := by
        unfold bodyF; simp only; rw [if_neg k1, if_pos k2]
      unfold plainF
      have : (q + 8).toNat = s.size := by omega
      rw [this] at h8
      rw [eb, ← h8]
      have h2 : headF ⟨bt s 0, n, false, ⟨#[]⟩, zv, num8 s q 8, []⟩ = s.extract 0 q.toNat := hd.symm
      rw [h2, hall]
  rw [if_neg k2] at hf hi hto
  by_cases k3 : bt s 0 = 3
  · rw [if_pos k3] at hf hi hto
    simp only [decide_eq_true_eq] at hi
    rcases TT_shape s q hs with ⟨e, g, he⟩ | ⟨t, r, g, hm, _, r1, r2, hT⟩
    · rw [g] at hi; simp only at hi; exact absurd hi he
    rw [g] at hf hto
    simp only at hf hto
    subst hf
    refine ⟨?_, ?_, by simp only; omega, by simp only; omega⟩
    · rw [mayF_iff]
      refine ⟨by simp only; omega, ?_⟩
      unfold mayK
      simp only
      rw [if_neg k1, if_neg k2, if_pos k3, (zV_iff _).2 rfl, hm]
      rfl
    · have eb : (bodyF ⟨bt s 0, n, false, ⟨#[]⟩, zv, 0, t⟩).1 = tB t := by
        unfold bodyF putT; simp only; rw [if_neg k1, if_neg k2, if_pos k3, if_pos hm]
      unfold plainF
      have : r.toNat = s.size := by omega
      rw [this] at hT
      rw [eb, ← hT]
      have h2 : headF ⟨bt s 0, n, false, ⟨#[]⟩, zv, 0, t⟩ = s.extract 0 q.toNat := hd.symm
      rw [h2, hall]
  · rw [if_neg k3] at hf hi hto
    simp only at hf hto
    have k4 : bt s 0 = 4 := by omega
    subst hf
    refine ⟨?_, ?_, by simp only; omega, by simp only; omega⟩
    · rw [mayF_iff]
      refine ⟨by simp only; omega, ?_⟩
      unfold mayK
      simp only
      rw [if_neg k1, if_neg k2, if_neg k3, if_pos k4, (zV_iff _).2 rfl]
      rfl
    · have eb : (bodyF ⟨bt s 0, n, false, ⟨#[]⟩, zv, 0, []⟩).1 = ⟨#[]⟩ := by
        unfold bodyF; simp only; rw [if_neg k1, if_neg k2, if_neg k3]
      unfold plainF
      rw [eb, app_nil]
      have h2 : headF ⟨bt s 0, n, false, ⟨#[]⟩, zv, 0, []⟩ = s.extract 0 q.toNat := hd.symm
      rw [h2]
      have : q.toNat = s.size := by omega
      rw [this, ext_all]
end Go.Proofs.Ytjccgdnnnlgeeaa.XFr
end

section
/- Frames as bytes, in plain functions: what the printed functions, and the references, answer; what is sealed is opened. -/
namespace Go.Proofs.Ytjccgdnnnlgeeaa.XFr
open Go.RowKit Go.Proofs.Ytjccgdnnnlgeeaa.PA Go.Proofs.YtjccgdnnnlgeeaaW.PrintWords Go.Proofs.YtjccgdnnnlgeeaaW.PrintLast Go.Proofs.Ytjccgdnnnlgeeaa.XVar Go.Proofs.Ytjccgdnnnlgeeaa.XBytes Go.Proofs.Ytjccgdnnnlgeeaa.XV01 Go.Proofs.Ytjccgdnnnlgeeaa.XCat Go.Proofs.Ytjccgdnnnlgeeaa.XV04
open Go.Proofs.Ytjccgdnnnlgeeaa.XPut (nameP)
open Go.Proofs.Ytjccgdnnnlgeeaa.XSum (Se kSe)
open Go.Proofs.Ytjccgdnnnlgeeaa.XIdent (isB)
open Go.Proofs.Ytjccgdnnnlgeeaa.XMay (mayB)
open Go.Proofs.Ytjccgdnnnlgeeaa.XV17 (mayT mayT_iff rowOk refMayT_b refIs_f rdS_at)
open Go.Proofs.Ytjccgdnnnlgeeaa.XGen (wrap_succ)
open Go.Proofs.Ytjccgdnnnlgeeaa.XCrc (sealB openB sumBytes nats nats_lt nats_len sum half hn R all hn_succ hn_lt R_lt)
set_option linter.unusedVariables false
set_option linter.unusedSimpArgs false
/-! ### which tables, and frames, are the same -/
theorem seNe (x y : Se) : ((!(x.f0.toList == y.f0.toList)) || ((!(x.f1.f0 == y.f1.f0) || (!(x.f1.f1 == y.f1.f1) || (!(x.f1.f2 == y.f1.f2) || (!(x.f1.f3.toList == y.f1.f3.toList))))))) = true ↔ x ≠ y := by
 obtain ⟨a, b, c, d, e⟩ := x
 obtain ⟨a', b', c', d', e'⟩ := y
 rw [← Bool.not_eq_false]
 refine not_congr ?_
 simp only [Bool.or_eq_false_iff, Bool.not_eq_false', beq_iff_eq, S52.mk.injEq, S23.mk.injEq, toList_inj]
theorem sameL (a b : List Se) (ha : a.length ≤ 1000000) (hl : a.length = b.length) : ∀ (d k j : Nat), j + d = a.length → d < k → ∃ r, rollcallref05_Same.l0 k a b (j : Int) = some r ∧ (r = true ↔ a.drop j = b.drop j) := by
 intro d
 induction d with
 | zero =>
  intro k j hj hk
  obtain ⟨k, rfl⟩ : ∃ m, k = m + 1 := ⟨k - 1, by omega⟩
  rw [rollcallref05_Same.l0, if_neg (by omega), List.drop_eq_nil_of_le (by omega), List.drop_eq_nil_of_le (by omega)]
  exact ⟨true, rfl, by simp⟩
 | succ d ih =>
  intro k j hj hk
  obtain ⟨k, rfl⟩ : ∃ m, k = m + 1 := ⟨k - 1, by omega⟩
  rw [rollcallref05_Same.l0, if_pos (by omega), if_pos (by omega), if_pos (by omega), rdS_at a j (by omega), rdS_at b j (by omega)]
  have da := XGen.drop_get a j (by omega)
  have db := XGen.drop_get b j (by omega)
  by_cases c : a[j]'(by omega) = b[j]'(by omega)
  ·have hn : ¬ _ := (not_congr (seNe (a[j]'(by omega)) (b[j]'(by omega)))).2 (fun h => h c)
   rw [if_neg hn, wrap_succ j (by omega)]
   obtain ⟨r, h1, h2⟩ := ih k (j + 1) (by omega) (by omega)
   exact ⟨r, h1, by rw [h2, da, db, c, List.cons.injEq]; exact ⟨fun h => ⟨rfl, h⟩, fun h => h.2⟩⟩
  ·rw [if_pos ((seNe _ _).2 c)]
   exact ⟨false, rfl, by rw [da, db, List.cons.injEq]; exact ⟨fun h => (nomatch h), fun h => absurd h.1 c⟩⟩
theorem same_b (k : Nat) (a b : List Se) (ha : a.length ≤ 1000000) (hk : a.length < k) : ∃ r, rollcallref05_Same.f k a b = some r ∧ (r = true ↔ a = b) := by
 unfold rollcallref05_Same.f
 by_cases c : (a.length : Int) = (b.length : Int)
 ·rw [if_pos c]
  obtain ⟨r, h1, h2⟩ := sameL a b ha (by omega) a.length k 0 (by omega) hk
  exact ⟨r, h1, by rw [h2]; simp⟩
 ·rw [if_neg c]
  exact ⟨false, rfl, by simp; intro h; rw [h] at c; exact c rfl⟩
theorem eqL (a b : List Se) (ha : a.length ≤ 1000000) (hl : a.length = b.length) : ∀ (d k j : Nat), j + d = a.length → d < k → ∃ r, api_Seen.l0 k a b (a.length : Int) (j : Int) = some r ∧ (r = true ↔ a.drop j = b.drop j) := by
 intro d
 induction d with
 | zero =>
  intro k j hj hk
  obtain ⟨k, rfl⟩ : ∃ m, k = m + 1 := ⟨k - 1, by omega⟩
  rw [api_Seen.l0, if_neg (by omega), List.drop_eq_nil_of_le (by omega), List.drop_eq_nil_of_le (by omega)]
  exact ⟨true, rfl, by simp⟩
 | succ d ih =>
  intro k j hj hk
  obtain ⟨k, rfl⟩ : ∃ m, k = m + 1 := ⟨k - 1, by omega⟩
  rw [api_Seen.l0, if_pos (by omega), if_pos (by omega), if_pos (by omega), if_pos (by omega), rdS_at a j (by omega), rdS_at b j (by omega)]
  have da := XGen.drop_get a j (by omega)
  have db := XGen.drop_get b j (by omega)
  by_cases c : a[j]'(by omega) = b[j]'(by omega)
  ·have hn : ¬ _ := (not_congr (seNe (a[j]'(by omega)) (b[j]'(by omega)))).2 (fun h => h c)
   rw [if_neg hn, wrap_succ j (by omega)]
   obtain ⟨r, h1, h2⟩ := ih k (j + 1) (by omega) (by omega)
   exact ⟨r, h1, by rw [h2, da, db, c, List.cons.injEq]; exact ⟨fun h => ⟨rfl, h⟩, fun h => h.2⟩⟩
  ·rw [if_pos ((seNe _ _).2 c)]
   exact ⟨false, rfl, by rw [da, db, List.cons.injEq]; exact ⟨fun h => (nomatch h), fun h => absurd h.1 c⟩⟩
theorem eq_b (k : Nat) (a b : List Se) (ha : a.length ≤ 1000000) (hk : a.length < k) : ∃ r, api_Seen.f k a b = some r ∧ (r = true ↔ a = b) := by
 unfold api_Seen.f
 by_cases c : (a.length : Int) = (b.length : Int)
 ·rw [if_pos c]
  obtain ⟨r, h1, h2⟩ := eqL a b ha (by omega) a.length k 0 (by omega) hk
  exact ⟨r, h1, by rw [h2]; simp⟩
 ·rw [if_neg c]
  exact ⟨false, rfl, by simp; intro h; rw [h] at c; exact c rfl⟩
theorem fr_ext (f g : Fr) : f = g ↔ f.f0 = g.f0 ∧ f.f1 = g.f1 ∧ f.f2 = g.f2 ∧ f.f3 = g.f3 ∧ f.f4 = g.f4 ∧ f.f5 = g.f5 ∧ f.f6 = g.f6 := by
 obtain ⟨a, b, c, d, e, i, j⟩ := f
 obtain ⟨a', b', c', d', e', i', j'⟩ := g
 simp only [S27.mk.injEq]
theorem veq (v u : S23) : (v.f0 == u.f0 && (v.f1 == u.f1 && (v.f2 == u.f2 && (v.f3.toList == u.f3.toList)))) = true ↔ v = u := by
 obtain ⟨a, b, c, d⟩ := v
 obtain ⟨a', b', c', d'⟩ := u
 simp only [Bool.and_eq_true, beq_iff_eq, S23.mk.injEq, toList_inj]
abbrev sameArgs (F : Nat → Int → Int → Bool → ByteArray → Int → Int → Int → ByteArray → Int → List Se → Int → Int → Bool → ByteArray → Int → Int → Int → ByteArray → Int → List Se → Option Bool) (k : Nat) (f g : Fr) : Option Bool :=
 F k f.f0 f.f1 f.f2 f.f3 f.f4.f0 f.f4.f1 f.f4.f2 f.f4.f3 f.f5 f.f6 g.f0 g.f1 g.f2 g.f3 g.f4.f0 g.f4.f1 g.f4.f2 g.f4.f3 g.f5 g.f6
theorem refSameF_b (k : Nat) (f g : Fr) (hf : f.f6.length ≤ 1000000) (hk : f.f6.length < k) : ∃ r, sameArgs rollcallref06_Same.f k f g = some r ∧ (r = true ↔ f = g) := by
 unfold sameArgs rollcallref06_Same.f
 rw [fr_ext]
 by_cases c0 : f.f0 = g.f0
 ·by_cases c1 : f.f1 = g.f1
  ·by_cases c2 : f.f2 = g.f2
   ·by_cases c3 : f.f3 = g.f3
    ·by_cases c4 : f.f4 = g.f4
     ·by_cases c5 : f.f5 = g.f5
      ·rw [if_pos c0, if_pos c1, if_pos (by rw [c2]; simp), if_pos (by rw [c3]), if_pos ((veq _ _).2 c4), if_pos c5]
       obtain ⟨r, h1, h2⟩ := same_b k f.f6 g.f6 hf hk
       rw [h1]
       exact ⟨r, rfl, by rw [h2]; simp [c0, c1, c2, c3, c4, c5]⟩
      ·rw [if_pos c0, if_pos c1, if_pos (by rw [c2]; simp), if_pos (by rw [c3]), if_pos ((veq _ _).2 c4), if_neg c5]
       exact ⟨false, rfl, by simp [c5]⟩
     ·rw [if_pos c0, if_pos c1, if_pos (by rw [c2]; simp), if_pos (by rw [c3]), if_neg ((not_congr (veq _ _)).2 c4)]
      exact ⟨false, rfl, by simp [c4]⟩
    ·rw [if_pos c0, if_pos c1, if_pos (by rw [c2]; simp), if_neg (fun h => c3 (toList_inj.1 h))]
     exact ⟨false, rfl, by simp [c3]⟩
   ·rw [if_pos c0, if_pos c1, if_neg (by simpa using c2)]
    exact ⟨false, rfl, by simp [c2]⟩
  ·rw [if_pos c0, if_neg c1]
   exact ⟨false, rfl, by simp [c1]⟩
 ·rw [if_neg c0]
  exact ⟨false, rfl, by simp [c0]⟩
theorem sameF_b (k : Nat) (f g : Fr) (hf : f.f6.length ≤ 1000000) (hk : f.f6.length < k) : ∃ r, sameArgs frame_Same.f k f g = some r ∧ (r = true ↔ f = g) := by
 unfold sameArgs frame_Same.f
 rw [fr_ext]
 by_cases c0 : f.f0 = g.f0
 ·by_cases c1 : f.f1 = g.f1
  ·by_cases c2 : f.f2 = g.f2
   ·by_cases c3 : f.f3 = g.f3
    ·by_cases c4 : f.f4 = g.f4
     ·by_cases c5 : f.f5 = g.f5
      ·rw [if_pos c0, if_pos c1, if_pos (by rw [c2]; simp), if_pos (by rw [c3]), if_pos ((veq _ _).2 c4), if_pos c5]
       obtain ⟨r, h1, h2⟩ := eq_b k f.f6 g.f6 hf hk
       rw [h1]
       exact ⟨r, rfl, by rw [h2]; simp [c0, c1, c2, c3, c4, c5]⟩
      ·rw [if_pos c0, if_pos c1, if_pos (by rw [c2]; simp), if_pos (by rw [c3]), if_pos ((veq _ _).2 c4), if_neg c5]
       exact ⟨false, rfl, by simp [c5]⟩
     ·rw [if_pos c0, if_pos c1, if_pos (by rw [c2]; simp), if_pos (by rw [c3]), if_neg ((not_congr (veq _ _)).2 c4)]
      exact ⟨false, rfl, by simp [c4]⟩
    ·rw [if_pos c0, if_pos c1, if_pos (by rw [c2]; simp), if_neg (fun h => c3 (toList_inj.1 h))]
     exact ⟨false, rfl, by simp [c3]⟩
   ·rw [if_pos c0, if_pos c1, if_neg (by simpa using c2)]
    exact ⟨false, rfl, by simp [c2]⟩
  ·rw [if_pos c0, if_neg c1]
   exact ⟨false, rfl, by simp [c1]⟩
 ·rw [if_neg c0]
  exact ⟨false, rfl, by simp [c0]⟩
/-! ### sums and seals -/
theorem refStepL (k : Nat) : ∀ (d j : Nat) (x : Nat), j + d = 8 → x < 4294967296 → d < k → rollcallref02_Step.l0 k (x : Int) (j : Int) = some ((hn d x : Nat) : Int) := by
 intro d
 induction d generalizing k with
 | zero =>
  intro j x hj hx hk
  obtain ⟨k, rfl⟩ : ∃ m, k = m + 1 := ⟨k - 1, by omega⟩
  rw [rollcallref02_Step.l0, if_neg (by omega)]; rfl
 | succ d ih =>
  intro j x hj hx hk
  obtain ⟨k, rfl⟩ : ∃ m, k = m + 1 := ⟨k - 1, by omega⟩
  have e1 : Int.tmod (x : Int) 2 = ((x % 2 : Nat) : Int) := by rw [Int.tmod_eq_emod_of_nonneg (by omega)]; omega
  have e2 : Int.tdiv (x : Int) 2 % 4294967296 = ((x / 2 : Nat) : Int) := by rw [Int.tdiv_eq_ediv_of_nonneg (by omega)]; omega
  rw [rollcallref02_Step.l0, if_pos (by omega), e1, e2, wrap_succ j (by omega), hn, half]
  by_cases c : x % 2 = 1
  ·have hx2 := XCrc.u32_xor (x / 2) 3988292384 (by omega) (by decide)
   rw [if_pos (by omega), if_pos c, show (3988292384 : Int) = ((3988292384 : Nat) : Int) from rfl, hx2]
   exact ih k (j + 1) _ (by omega) (Nat.xor_lt_two_pow (n := 32) (by omega) (by decide)) (by omega)
  ·rw [if_neg (by omega), if_neg c]
   exact ih k (j + 1) _ (by omega) (by omega) (by omega)
theorem refStep_b (k c b : Nat) (hc : c < 4294967296) (hb : b < 256) (hk : 20 ≤ k) : rollcallref02_Step.f k (c : Int) (b : Int) = some ((XCrc.step c b : Nat) : Int) := by
 unfold rollcallref02_Step.f XCrc.step
 rw [show (b : Int) % 4294967296 = (b : Int) by omega, XCrc.u32_xor c b hc (by omega)]
 exact refStepL k 8 0 _ (by omega) (Nat.xor_lt_two_pow (n := 32) hc (by omega)) (by omega)
theorem bt_nats (s : ByteArray) (j : Nat) (h : j < (nats s).length) : bt s (j : Int) = (((nats s)[j] : Nat) : Int) := by
 rw [bt_eq, Int.toNat_natCast]
 have h' : j < s.data.toList.length := by unfold nats at h; simpa using h
 rw [List.getD_eq_getElem?_getD, List.getElem?_eq_getElem h']
 have : (nats s)[j] = (s.data.toList[j]'h').toNat := by simp only [nats, List.getElem_map]
 rw [this]
 rfl
theorem refSumL (s : ByteArray) (hs : s.size ≤ 1000000) : ∀ (d k j : Nat), j + d = s.size → d + 30 < k → rollcallref02_Sum.l0 k s ((R all ((nats s).take j) : Nat) : Int) (j : Int) = some ((sum (nats s) : Nat) : Int) := by
 intro d
 induction d with
 | zero =>
  intro k j hj hk
  obtain ⟨k, rfl⟩ : ∃ m, k = m + 1 := ⟨k - 1, by omega⟩
  rw [rollcallref02_Sum.l0, if_neg (by omega), List.take_of_length_le (by rw [nats_len]; omega)]
  congr 1
  exact XCrc.u32_xor _ all (R_lt _ (by decide) (nats_lt s)) (by decide)
 | succ d ih =>
  intro k j hj hk
  obtain ⟨k, rfl⟩ : ∃ m, k = m + 1 := ⟨k - 1, by omega⟩
  have hl : j < (nats s).length := by rw [nats_len]; omega
  rw [rollcallref02_Sum.l0, if_pos (by omega), if_pos (by omega), bt_nats s j hl, refStep_b k _ _ (R_lt _ (by decide) (fun b h => nats_lt s b (List.mem_of_mem_take h))) (nats_lt s _ (List.getElem_mem hl)) (by omega), wrap_succ j (by omega)]
  simp only [Option.bind_some]
  have e : XCrc.step (R all ((nats s).take j)) (nats s)[j] = R all ((nats s).take (j + 1)) := by
   rw [List.take_succ_eq_append_getElem hl, XCrc.R_app]; rfl
  rw [e]
  exact ih k (j + 1) (by omega) (by omega)
theorem sealB_size (s : ByteArray) : (sealB s).size = s.size + 4 := by unfold sealB; rw [app_size, strOfNums_size]; rfl
theorem refSeal_b (k : Nat) (s : ByteArray) (hs : s.size ≤ 100000) (hk : s.size + 40 < k) : rollcallref02_Seal.f k s = some (sealB s) := by
 unfold rollcallref02_Seal.f rollcallref02_Sum.f
 have := refSumL s (by omega) s.size k 0 (by omega) (by omega)
 rw [List.take_zero] at this
 have e : ((R all [] : Nat) : Int) = 4294967295 := rfl
 rw [e] at this
 rw [show (0 : Int) = ((0 : Nat) : Int) from rfl, this]
 simp only [Option.bind_some]
 rw [if_pos (by rw [strOfNums_size]; simp; omega)]
 rfl
theorem refOpen_b (k : Nat) (s : ByteArray) (hs : s.size ≤ 100000) (hk : s.size + 40 < k) : rollcallref02_Open.f k s = some (openB s) := by
 unfold rollcallref02_Open.f openB
 by_cases c : s.size < 4
 ·rw [if_pos (by omega), if_pos c]
 ·have e : wrap64 ((s.size : Int) - 4) = ((s.size - 4 : Nat) : Int) := by rw [wrap_id _ (by omega) (by omega)]; omega
  rw [if_neg (by omega), if_neg c, e, if_pos (by omega), if_pos (by omega), Int.toNat_natCast, refSeal_b k _ (by rw [ext_size]; omega) (by rw [ext_size]; omega)]
  simp only [Option.bind_some]
  by_cases d : sealB (s.extract 0 (s.size - 4)) = s
  ·rw [if_pos (by rw [d]), if_pos d]
  ·rw [if_neg (fun h => d (toList_inj.1 h)), if_neg d]
theorem open_seal (t : ByteArray) : openB (sealB t) = (t, 0) := by
 unfold openB
 have hz := sealB_size t
 have e : (sealB t).extract 0 ((sealB t).size - 4) = t := by
  rw [hz, Nat.add_sub_cancel]
  unfold sealB
  have := ext_mid ⟨#[]⟩ t (strOfNums (sumBytes t))
  rw [nil_app] at this
  have z : (⟨#[]⟩ : ByteArray).size = 0 := rfl
  rw [z, Nat.zero_add] at this
  exact this
 rw [if_neg (by omega), e, if_pos rfl]
theorem open_size (s : ByteArray) : (openB s).1.size ≤ s.size := by
 unfold openB
 split
 ·exact Nat.zero_le _
 ·split
  ·show (s.extract _ _).size ≤ _; rw [ext_size]; omega
  ·exact Nat.zero_le _
/-! ### which may be, and how they are written -/
theorem refMayF_b (k : Nat) (f : Fr) (hk : 300 ≤ k) : rollcallref06_May.f k f.f0 f.f1 f.f2 f.f3 f.f4.f0 f.f4.f1 f.f4.f2 f.f4.f3 f.f5 f.f6 = some (mayF f) := by
 obtain ⟨k, rfl⟩ : ∃ m, k = m + 1 := ⟨k - 1, by omega⟩
 unfold rollcallref06_May.f mayF
 have ht : ∀ q : Bool, q = true → rollcallref06_May.j0 (k + 1) q f.f0 f.f1 f.f2 f.f3 f.f4.f0 f.f4.f1 f.f4.f2 f.f4.f3 f.f5 f.f6 = some false := by intro q hq; rw [rollcallref06_May.j0, if_pos hq]
 by_cases c0 : f.f1 < 0
 ·rw [if_pos c0, ht _ rfl, decide_eq_false (by omega)]; rfl
 rw [if_neg c0]
 by_cases c1 : f.f1 > 1099511627776
 ·rw [decide_eq_true c1, ht _ rfl, decide_eq_false (by omega)]; rfl
 rw [decide_eq_false c1, decide_eq_true (by omega), Bool.true_and, rollcallref06_May.j0, if_neg (by decide)]
 have hz : (f.f4.f0 == 0 && (f.f4.f1 == 0 && (f.f4.f2 == 0 && (f.f4.f3.toList == ([] : List UInt8))))) = zV f.f4 := rfl
 have hnz : (!(f.f4.f0 == 0) || (!(f.f4.f1 == 0) || (!(f.f4.f2 == 0) || (!(f.f4.f3.toList == ([] : List UInt8)))))) = !zV f.f4 := by unfold zV; simp only [Bool.not_and]
 have hln : ((f.f6.length : Int) == 0) = decide (f.f6.length = 0) := by
  by_cases c : f.f6.length = 0
  ·rw [c]; rfl
  ·rw [decide_eq_false c]; simp; intro h; rw [h] at c; exact c rfl
 have hes : (f.f3.toList = ([] : List UInt8)) ↔ f.f3 = ⟨#[]⟩ := toList_e
 unfold mayK
 rw [hz, hnz, hln]
 by_cases k1 : f.f0 = 1
 ·rw [if_pos k1, if_pos k1, refIs_f k _ (by omega)]
  simp only [Option.bind_some]
  cases isB f.f3 with
  | false => simp
  | true =>
   rw [if_pos rfl]
   cases f.f2 with
   | true =>
    rw [if_pos rfl, XV17.refMay_f k _ _ _ _ (by omega)]
    simp only [Option.bind_some]
    cases mayB f.f4.f0 f.f4.f1 f.f4.f2 f.f4.f3 <;> by_cases c5 : f.f5 = 0 <;> simp [c5]
   | false =>
    rw [if_neg (by decide)]
    cases zV f.f4 <;> by_cases c5 : f.f5 = 0 <;> simp [c5]
 rw [if_neg k1, if_neg k1]
 by_cases k2 : f.f0 = 2
 ·rw [if_pos k2, if_pos k2]
  cases f.f2 <;> by_cases c3 : f.f3 = ⟨#[]⟩ <;> cases zV f.f4 <;> simp [hes, c3]
 rw [if_neg k2, if_neg k2]
 by_cases k3 : f.f0 = 3
 ·rw [if_pos k3, if_pos k3, refMayT_b k _ (by omega)]
  cases f.f2 <;> by_cases c3 : f.f3 = ⟨#[]⟩ <;> cases zV f.f4 <;> by_cases c5 : f.f5 = 0 <;> simp [hes, c3, c5]
 rw [if_neg k3, if_neg k3]
 by_cases k4 : f.f0 = 4
 ·rw [if_pos k4, if_pos k4]
  cases f.f2 <;> by_cases c3 : f.f3 = ⟨#[]⟩ <;> cases zV f.f4 <;> by_cases c5 : f.f5 = 0 <;> simp [hes, c3, c5]
 ·rw [if_neg k4, if_neg k4]
end Go.Proofs.Ytjccgdnnnlgeeaa.XFr
end

section
/- Frames as bytes, in plain functions: how they are written, sealed and opened again. -/
namespace Go.Proofs.Ytjccgdnnnlgeeaa.XFr
open Go.RowKit Go.Proofs.Ytjccgdnnnlgeeaa.PA Go.Proofs.YtjccgdnnnlgeeaaW.PrintWords Go.Proofs.YtjccgdnnnlgeeaaW.PrintLast Go.Proofs.Ytjccgdnnnlgeeaa.XVar Go.Proofs.Ytjccgdnnnlgeeaa.XBytes Go.Proofs.Ytjccgdnnnlgeeaa.XV01 Go.Proofs.Ytjccgdnnnlgeeaa.XCat Go.Proofs.Ytjccgdnnnlgeeaa.XV04
open Go.Proofs.Ytjccgdnnnlgeeaa.XPut (nameP)
open Go.Proofs.Ytjccgdnnnlgeeaa.XSum (Se kSe)
open Go.Proofs.Ytjccgdnnnlgeeaa.XIdent (isB)
open Go.Proofs.Ytjccgdnnnlgeeaa.XMay (mayB)
open Go.Proofs.Ytjccgdnnnlgeeaa.XV17 (mayT mayT_iff rowOk refMayT_b refIs_f rdS_at)
open Go.Proofs.Ytjccgdnnnlgeeaa.XGen (wrap_succ)
open Go.Proofs.Ytjccgdnnnlgeeaa.XCrc (sealB openB sumBytes nats nats_lt nats_len)
set_option linter.unusedVariables false
set_option linter.unusedSimpArgs false
/-! ### sizes -/
theorem P_six {n : Int} (h0 : 0 ≤ n) (h1 : n ≤ 1099511627776) : (P n).size ≤ 6 := by
 rw [P_size]
 have := digs_mono 10 n 1099511627776 h0 h1 (by simp [pw])
 have e : (digs 10 1099511627776).length = 6 := by decide
 omega
theorem P_one {n : Int} (h0 : 0 ≤ n) (h1 : n ≤ 127) : (P n).size = 1 := by
 rw [P_size]
 have := digs_mono 10 n 127 h0 h1 (by simp [pw])
 have e : (digs 10 127).length = 1 := by decide
 have := digs_pos 9 n
 have e2 : (digs (9 + 1) n).length = (digs 10 n).length := rfl
 omega
theorem X_le {n : ByteArray} (h : isB n = true) : (X n).size ≤ 17 := by
 have h1 := isB_16 h
 have := P_one (n := (n.size : Int)) (by omega) (by omega)
 rw [X_size]; omega
theorem Vb_le {a b c : Int} {d : ByteArray} (h : mayB a b c d = true) : (Vb a b c d).size ≤ 41 := by
 obtain ⟨h1, h2, h3, h4, h5, h6, h7⟩ := may_nums h
 have e1 := P_six h5 h6
 have e2 := P_one (n := (d.size : Int)) (by omega) (by omega)
 rw [Vb_size]; omega
theorem tB_le {t : List Se} (h : mayT t = true) : (tB t).size ≤ 1 + 58 * t.length ∧ t.length ≤ 32 := by
 obtain ⟨h1, h2, h3⟩ := (mayT_iff t).1 h
 have e1 := P_one (n := (t.length : Int)) (by omega) (by omega)
 have e2 := cat_size (t.map rB) 58 (fun a ha => by
  obtain ⟨x, hx, rfl⟩ := List.mem_map.1 ha
  have := h2 x hx
  unfold rowOk at this
  rw [Bool.and_eq_true] at this
  have e3 := X_le this.1
  have e4 := Vb_le this.2
  rw [rB_size]; omega)
 rw [List.length_map] at e2
 unfold tB
 rw [app_size]
 omega
theorem name_le (n : ByteArray) : (nameP n).1.size ≤ 17 := by
 unfold nameP
 split
 ·rename_i h; exact X_le h
 ·exact Nat.zero_le _
theorem PV_le (a b c : Int) (d : ByteArray) : (PV a b c d).1.size ≤ 41 := by
 unfold PV
 split
 ·rename_i h; exact Vb_le h
 ·exact Nat.zero_le _
theorem body_le (f : Fr) : (bodyF f).1.size ≤ 1857 := by
 unfold bodyF putT
 split
 ·split
  ·have h1 := name_le f.f3
   have h2 := PV_le f.f4.f0 f.f4.f1 f.f4.f2 f.f4.f3
   have h3 : (⟨#[1]⟩ : ByteArray).size = 1 := rfl
   simp only [app_size]
   omega
  ·have h1 := name_le f.f3
   have h3 : (⟨#[0]⟩ : ByteArray).size = 1 := rfl
   simp only [app_size]
   omega
 ·split
  ·simp only [sum8_size]; omega
  ·split
   ·split
    ·rename_i h
     have := tB_le h
     simp only
     omega
    ·exact Nat.zero_le _
   ·exact Nat.zero_le _
theorem plain_le {f : Fr} (h0 : 0 ≤ f.f1) (h1 : f.f1 ≤ 1099511627776) : (plainF f).size ≤ 1864 := by
 unfold plainF
 rw [app_size, headF_size]
 have := body_le f
 have := P_six h0 h1
 omega
/-! ### what is written -/
theorem delta_b (k : Nat) (f : Fr) (hn : f.f3.size ≤ 9223372036854775807) (hk : 40 ≤ k) (h1 : f.f0 = 1) : frame_delta.f k f.f0 f.f1 f.f2 f.f3 f.f4.f0 f.f4.f1 f.f4.f2 f.f4.f3 f.f5 f.f6 = some (bodyF f) := by
 unfold frame_delta.f bodyF
 rw [XPut.put_n k f.f3 hn (by omega), if_pos h1]
 simp only [Option.bind_some]
 have e1 := name_le f.f3
 have e2 := PV_le f.f4.f0 f.f4.f1 f.f4.f2 f.f4.f3
 have z1 : (⟨#[1]⟩ : ByteArray).size = 1 := rfl
 by_cases c : f.f2 = true
 ·rw [if_pos c, if_pos c, XPut.put_v k _ _ _ _ (by omega)]
  simp only [Option.bind_some]
  rw [PV_eq, if_pos (by omega), if_pos (by rw [app_size]; omega)]
  cases (nameP f.f3).2 <;> simp
 ·rw [if_neg c, if_neg c, if_pos (by omega)]
theorem shr_ (n : Int) (j : Nat) (h : j ≤ 64) : shr .u64 n (j : Int) = n / 2 ^ j := by
 have := shr_small (k := .u64) (x := n) (y := (j : Int)) rfl (by show (j : Int) ≤ ((64 : Nat) : Int); omega)
 rw [← this, Int.toNat_natCast]
theorem fsum_b (k : Nat) (f : Fr) (hk : 20 ≤ k) (h2 : f.f0 = 2) : frame_sum.f k f.f0 f.f1 f.f2 f.f3 f.f4.f0 f.f4.f1 f.f4.f2 f.f4.f3 f.f5 f.f6 = some (bodyF f) := by
 obtain ⟨k, rfl⟩ : ∃ m, k = m + 9 := ⟨k - 9, by omega⟩
 unfold frame_sum.f bodyF
 rw [if_neg (by omega), if_pos h2]
 have s7 := shr_ f.f5 56 (by omega)
 have s6 := shr_ f.f5 48 (by omega)
 have s5 := shr_ f.f5 40 (by omega)
 have s4 := shr_ f.f5 32 (by omega)
 have s3 := shr_ f.f5 24 (by omega)
 have s2 := shr_ f.f5 16 (by omega)
 have s1 := shr_ f.f5 8 (by omega)
 have s0 := shr_ f.f5 0 (by omega)
 rw [frame_sum.l0, if_pos (by omega), show wrap64 (8 * 7) = ((56 : Nat) : Int) from by unfold wrap64; omega, if_pos (by omega), if_pos (by simp), s7, show wrap64 (7 - 1) = 6 from by unfold wrap64; omega]
 rw [frame_sum.l0, if_pos (by omega), show wrap64 (8 * 6) = ((48 : Nat) : Int) from by unfold wrap64; omega, if_pos (by omega), if_pos (by simp), s6, show wrap64 (6 - 1) = 5 from by unfold wrap64; omega]
 rw [frame_sum.l0, if_pos (by omega), show wrap64 (8 * 5) = ((40 : Nat) : Int) from by unfold wrap64; omega, if_pos (by omega), if_pos (by simp), s5, show wrap64 (5 - 1) = 4 from by unfold wrap64; omega]
 rw [frame_sum.l0, if_pos (by omega), show wrap64 (8 * 4) = ((32 : Nat) : Int) from by unfold wrap64; omega, if_pos (by omega), if_pos (by simp), s4, show wrap64 (4 - 1) = 3 from by unfold wrap64; omega]
 rw [frame_sum.l0, if_pos (by omega), show wrap64 (8 * 3) = ((24 : Nat) : Int) from by unfold wrap64; omega, if_pos (by omega), if_pos (by simp), s3, show wrap64 (3 - 1) = 2 from by unfold wrap64; omega]
 rw [frame_sum.l0, if_pos (by omega), show wrap64 (8 * 2) = ((16 : Nat) : Int) from by unfold wrap64; omega, if_pos (by omega), if_pos (by simp), s2, show wrap64 (2 - 1) = 1 from by unfold wrap64; omega]
 rw [frame_sum.l0, if_pos (by omega), show wrap64 (8 * 1) = ((8 : Nat) : Int) from by unfold wrap64; omega, if_pos (by omega), if_pos (by simp), s1, show wrap64 (1 - 1) = 0 from by unfold wrap64; omega]
 rw [frame_sum.l0, if_pos (by omega), show wrap64 (8 * 0) = ((0 : Nat) : Int) from by unfold wrap64; omega, if_pos (by omega), if_pos (by simp), s0, show wrap64 (0 - 1) = -1 from by unfold wrap64; omega]
 rw [frame_sum.l0, if_neg (by omega)]
 unfold sum8
 simp
theorem one_nums (x : Int) : (strOfNums [x]).size = 1 := by rw [strOfNums_size]; rfl
theorem refPlain_b (k : Nat) (f : Fr) (h : mayF f = true) (hf : f.f6.length ≤ 40) (hk : 400 ≤ k) : rollcallref06_plain.f k f.f0 f.f1 f.f2 f.f3 f.f4.f0 f.f4.f1 f.f4.f2 f.f4.f3 f.f5 f.f6 = some (plainF f) := by
 obtain ⟨⟨h0, h1⟩, hk2⟩ := (mayF_iff f).1 h
 have hP := P_le f.f1
 have hh := headF_size f
 unfold rollcallref06_plain.f
 rw [wrap_u64 _ (by omega) (by omega), refPut_f k _ (by omega) (by omega) (by omega)]
 simp only [Option.bind_some]
 rw [if_pos (by rw [one_nums]; omega)]
 change (if f.f0 = 1 then _ else _) = _
 have e : (strOfNums [f.f0 % 256] ++ P f.f1) = headF f := rfl
 rw [e]
 have e1 := name_le f.f3
 have e2 := PV_le f.f4.f0 f.f4.f1 f.f4.f2 f.f4.f3
 have z1 : (⟨#[1]⟩ : ByteArray).size = 1 := rfl
 have z0 : (⟨#[0]⟩ : ByteArray).size = 1 := rfl
 unfold plainF bodyF
 by_cases c1 : f.f0 = 1
 ·rw [if_pos c1, if_pos c1, XPut.refPut_n k _ (by omega)]
  simp only [Option.bind_some]
  by_cases c : f.f2 = true
  ·rw [if_pos c, if_pos c, XPut.refPut_v k _ _ _ _ (by omega)]
   simp only [Option.bind_some]
   rw [PV_eq, if_pos (by omega), if_pos (by rw [app_size]; omega), if_pos (by rw [app_size, app_size]; omega)]
   simp only [app_assoc]
  ·rw [if_neg c, if_neg c, if_pos (by omega), if_pos (by rw [app_size]; omega)]
   simp only [app_assoc]
 rw [if_neg c1, if_neg c1]
 by_cases c2 : f.f0 = 2
 ·rw [if_pos c2, if_pos c2]
  obtain ⟨k, rfl⟩ : ∃ m, k = m + 9 := ⟨k - 9, by omega⟩
  have s7 := shr_ f.f5 56 (by omega)
  have s6 := shr_ f.f5 48 (by omega)
  have s5 := shr_ f.f5 40 (by omega)
  have s4 := shr_ f.f5 32 (by omega)
  have s3 := shr_ f.f5 24 (by omega)
  have s2 := shr_ f.f5 16 (by omega)
  have s1 := shr_ f.f5 8 (by omega)
  have s0 := shr_ f.f5 0 (by omega)
  rw [rollcallref06_plain.l0, if_pos (by omega), show IntKind.u64.wrap 56 = ((56 : Nat) : Int) from by rw [wrap_u64 _ (by omega) (by omega)]; rfl, if_pos (by omega), s7, show wrap64 (56 - 8) = 48 from by unfold wrap64; omega]
  simp only [Option.bind_some]
  rw [if_pos (by rw [one_nums]; omega)]
  rw [rollcallref06_plain.l0, if_pos (by omega), show IntKind.u64.wrap 48 = ((48 : Nat) : Int) from by rw [wrap_u64 _ (by omega) (by omega)]; rfl, if_pos (by omega), s6, show wrap64 (48 - 8) = 40 from by unfold wrap64; omega]
  simp only [Option.bind_some]
  rw [if_pos (by simp only [one_nums, app_size]; omega)]
  rw [rollcallref06_plain.l0, if_pos (by omega), show IntKind.u64.wrap 40 = ((40 : Nat) : Int) from by rw [wrap_u64 _ (by omega) (by omega)]; rfl, if_pos (by omega), s5, show wrap64 (40 - 8) = 32 from by unfold wrap64; omega]
  simp only [Option.bind_some]
  rw [if_pos (by simp only [one_nums, app_size]; omega)]
  rw [rollcallref06_plain.l0, if_pos (by omega), show IntKind.u64.wrap 32 = ((32 : Nat) : Int) from by rw [wrap_u64 _ (by omega) (by omega)]; rfl, if_pos (by omega), s4, show wrap64 (32 - 8) = 24 from by unfold wrap64; omega]
  simp only [Option.bind_some]
  rw [if_pos (by simp only [one_nums, app_size]; omega)]
  rw [rollcallref06_plain.l0, if_pos (by omega), show IntKind.u64.wrap 24 = ((24 : Nat) : Int) from by rw [wrap_u64 _ (by omega) (by omega)]; rfl, if_pos (by omega), s3, show wrap64 (24 - 8) = 16 from by unfold wrap64; omega]
  simp only [Option.bind_some]
  rw [if_pos (by simp only [one_nums, app_size]; omega)]
  rw [rollcallref06_plain.l0, if_pos (by omega), show IntKind.u64.wrap 16 = ((16 : Nat) : Int) from by rw [wrap_u64 _ (by omega) (by omega)]; rfl, if_pos (by omega), s2, show wrap64 (16 - 8) = 8 from by unfold wrap64; omega]
  simp only [Option.bind_some]
  rw [if_pos (by simp only [one_nums, app_size]; omega)]
  rw [rollcallref06_plain.l0, if_pos (by omega), show IntKind.u64.wrap 8 = ((8 : Nat) : Int) from by rw [wrap_u64 _ (by omega) (by omega)]; rfl, if_pos (by omega), s1, show wrap64 (8 - 8) = 0 from by unfold wrap64; omega]
  simp only [Option.bind_some]
  rw [if_pos (by simp only [one_nums, app_size]; omega)]
  rw [rollcallref06_plain.l0, if_pos (by omega), show IntKind.u64.wrap 0 = ((0 : Nat) : Int) from by rw [wrap_u64 _ (by omega) (by omega)]; rfl, if_pos (by omega), s0, show wrap64 (0 - 8) = -8 from by unfold wrap64; omega]
  simp only [Option.bind_some]
  rw [if_pos (by simp only [one_nums, app_size]; omega)]
  rw [rollcallref06_plain.l0, if_neg (by omega)]
  have e8 : sum8 f.f5 = strOfNums [f.f5 / 2 ^ 56 % 256] ++ (strOfNums [f.f5 / 2 ^ 48 % 256] ++ (strOfNums [f.f5 / 2 ^ 40 % 256] ++ (strOfNums [f.f5 / 2 ^ 32 % 256] ++ (strOfNums [f.f5 / 2 ^ 24 % 256] ++ (strOfNums [f.f5 / 2 ^ 16 % 256] ++ (strOfNums [f.f5 / 2 ^ 8 % 256] ++ strOfNums [f.f5 / 2 ^ 0 % 256])))))) := by
   rw [← XCrc.strs_app, ← XCrc.strs_app, ← XCrc.strs_app, ← XCrc.strs_app, ← XCrc.strs_app, ← XCrc.strs_app, ← XCrc.strs_app]
   unfold sum8
   simp
  simp only [app_assoc, e8]
 rw [if_neg c2, if_neg c2]
 by_cases c3 : f.f0 = 3
 ·rw [if_pos c3, if_pos c3, refPutT_b k f.f6 hf (by omega)]
  simp only [Option.bind_some]
  have hm := (body3 hk2 c3).2
  have ht := tB_le hm
  unfold putT
  rw [if_pos hm]
  simp only
  rw [if_pos (by omega)]
 ·rw [if_neg c3, if_neg c3, app_nil]
/-! ### what is encoded, and decoded -/
def encF (f : Fr) : ByteArray × Int := if mayF f = true then (sealB (plainF f), 0) else (⟨#[]⟩, 1)
theorem refEnc_b (k : Nat) (f : Fr) (hf : f.f6.length ≤ 40) (hk : 3000 ≤ k) : rollcallref06_Encode.f k f.f0 f.f1 f.f2 f.f3 f.f4.f0 f.f4.f1 f.f4.f2 f.f4.f3 f.f5 f.f6 = some (encF f) := by
 unfold rollcallref06_Encode.f encF
 rw [refMayF_b k f (by omega)]
 simp only [Option.bind_some]
 by_cases c : mayF f = true
 ·obtain ⟨⟨h0, h1⟩, _⟩ := (mayF_iff f).1 c
  have hl := plain_le h0 h1
  rw [if_pos c, if_pos c, refPlain_b k f c hf (by omega)]
  simp only [Option.bind_some]
  rw [refSeal_b k _ (by omega) (by omega)]
  rfl
 ·rw [if_neg c, if_neg c]
def decF (s : ByteArray) : Fr × Int :=
 if (openB s).2 = 0 then (if (readF (openB s).1).2 = true then ((readF (openB s).1).1, 0) else (zF, 3)) else (zF, (openB s).2)
/-- What is encoded is decoded. -/
theorem dec_enc {f : Fr} (h : mayF f = true) (h5 : 0 ≤ f.f5 ∧ f.f5 < 18446744073709551616) : decF (sealB (plainF f)) = (f, 0) := by
 unfold decF
 rw [open_seal]
 simp only
 rw [if_pos trivial, (read_write h h5).1]
 simp only
 rw [if_pos trivial]
/-- What the program's write finds: its bytes are a frame's just if it may be. -/
theorem write_may (f : Fr) (hr : 1 ≤ f.f0 ∧ f.f0 ≤ 4 ∧ 0 ≤ f.f1 ∧ f.f1 ≤ 1099511627776) (h5 : 0 ≤ f.f5 ∧ f.f5 < 18446744073709551616) : ((readF (plainF f)).2 = true ∧ (readF (plainF f)).1 = f) ↔ mayF f = true := by
 constructor
 ·rintro ⟨h1, h2⟩
  have hl := plain_le hr.2.2.1 hr.2.2.2
  exact (write_read (by omega) (show readF (plainF f) = (f, true) from Prod.ext h2 h1)).1
 ·intro h
  rw [(read_write h h5).1]
  exact ⟨rfl, rfl⟩
theorem may_body {f : Fr} (h : mayF f = true) : (bodyF f).2 = true ∧ 1 ≤ f.f0 ∧ f.f0 ≤ 4 ∧ 0 ≤ f.f1 ∧ f.f1 ≤ 1099511627776 := by
 obtain ⟨⟨h0, h1⟩, hk⟩ := (mayF_iff f).1 h
 refine ⟨?_, by have := mayK_kind hk; omega, by have := mayK_kind hk; omega, h0, h1⟩
 rcases mayK_kind hk with c | c | c | c
 ·obtain ⟨_, hn, hv⟩ := body1 hk c
  unfold bodyF
  rw [if_pos c]
  rcases hv with ⟨o, hv⟩ | ⟨o, hv⟩
  ·rw [if_pos o, nameP_ok hn, PV_ok hv]; rfl
  ·rw [if_neg (by rw [o]; decide), nameP_ok hn]
 ·unfold bodyF; rw [if_neg (by omega), if_pos c]
 ·have := (body3 hk c).2
  unfold bodyF putT; rw [if_neg (by omega), if_neg (by omega), if_pos c, if_pos this]
 ·unfold bodyF; rw [if_neg (by omega), if_neg (by omega), if_neg (by omega)]
end Go.Proofs.Ytjccgdnnnlgeeaa.XFr
end

section
/- More of Kn: a box that was made on the way. -/
namespace Go.Proofs.Ytjccgdnnnlgeeaa.XSt
set_option linter.unusedVariables false
set_option linter.unusedSimpArgs false
open Go.RowKit Go.Proofs.YtjccgdnnnlgeeaaW.PrintWords Go.Proofs.YtjccgdnnnlgeeaaW.PrintLast Go.Proofs.YtjccgdnnnlgeeaaW.PrintMore Go.Proofs.Ytjccgdnnnlgeeaa.XMem
variable {ok : Nat → Prop} {w0 w w1 : World} {L : List (Nat × Obj)} {u : Value} {U : Ft} {I : List Ft}
/-- A box that was made on the way. -/
theorem Kn.newAt (S : Kn ok w0 L u U I w) (hb : Below w.heap.size w w1) {p : Nat} {o : Obj} (hp : w.heap.size ≤ p) (ho : w1.heap[p]? = some o) : Kn ok w0 ((p, o) :: L) u U I w1 := by
 have S1 := S.below hb
 refine ⟨S1.bel, ?_, ?_, ?_, ?_, ?_, ?_⟩
 ·intro x hx
  rcases List.mem_cons.1 hx with rfl | hx
  ·exact ho
  ·exact S1.mem x hx
 ·intro x hx
  rcases List.mem_cons.1 hx with rfl | hx
  ·exact Nat.le_trans S.bel.size hp
  ·exact S.base x hx
 ·refine List.pairwise_cons.2 ⟨fun x hx => ?_, S.nod⟩
  have := S.lt hx
  show p ≠ x.1
  omega
 ·refine U.mono (U.step (U.bound S.own) (fun k _ hk => hb.block k hk)) (fun k hk => ⟨hk.1.1, fun x hx => ?_⟩)
  rcases List.mem_cons.1 hx with rfl | hx
  ·have := hk.2
   show k ≠ p
   omega
  ·exact hk.1.2 x hx
 ·intro k hk
  obtain ⟨h1, h2, h3⟩ := S.oob k hk
  refine ⟨fun x hx => ?_, Nat.lt_of_lt_of_le h2 hb.size, h3⟩
  rcases List.mem_cons.1 hx with rfl | hx
  ·show k ≠ p
   omega
  ·exact h1 x hx
 ·intro f hf
  refine f.mono (f.step (f.bound (S.ims f hf)) (fun k _ hk => hb.block k hk)) (fun k hk => ⟨⟨hk.1.1.1, fun x hx => ?_⟩, hk.1.2⟩)
  rcases List.mem_cons.1 hx with rfl | hx
  ·have := hk.2
   show k ≠ p
   omega
  ·exact hk.1.1.2 x hx
theorem Ft.below {f : Ft} (h : f.P w ok) (hb : Below w.heap.size w w1) : f.P w1 ok := f.step h (fun k _ hk => hb.block k hk)
theorem Ft.all {f : Ft} (h : f.P w ok) : f.P w (fun _ => True) := f.mono h (fun _ _ => trivial)
end Go.Proofs.Ytjccgdnnnlgeeaa.XSt
end

section
/- frame's kinds, and how each reads its own fields, walked. -/
namespace Go.Proofs.Ytjccgdnnnlgeeaa.XKn
open Go.RowKit Go.Proofs.YtjccgdnnnlgeeaaW.PrintWords Go.Proofs.YtjccgdnnnlgeeaaW.PrintLast Go.Proofs.YtjccgdnnnlgeeaaW.PrintMore Go.Proofs.Ytjccgdnnnlgeeaa.PA Go.Proofs.Ytjccgdnnnlgeeaa.XMem Go.Proofs.Ytjccgdnnnlgeeaa.XSt
set_option linter.unusedVariables false
set_option linter.unusedSimpArgs false
theorem ident_Take.kn {w : World} (k : Nat) {a0 : ByteArray} {a1 : Int} {r1 : ByteArray} {r2 : Int} {r3 : Int} (h : ident_Take.f k a0 a1 = some (r1, r2, r3))  :
  Calls Try.prog 63 #[.string a0, .int .i64 a1] w fun e w' => e = .returned (.tuple #[.string r1, .int .i64 r2, .int .i64 r3]) ∧ Below w.heap.size w w' := by
 refine (ident_Take.calls k a0 a1 r1 r2 r3 w h).mono ?_
 rintro e w' ⟨y0, y1⟩
 exact ⟨y0, y1⟩
theorem value_Take.kn {w : World} (k : Nat) {a0 : ByteArray} {a1 : Int} {r1 : Int} {r2 : Int} {r3 : Int} {r4 : ByteArray} {r5 : Int} {r6 : Int} (h : value_Take.f k a0 a1 = some (r1, r2, r3, r4, r5, r6))  :
  Calls Try.prog 64 #[.string a0, .int .i64 a1] w fun e w' => e = .returned (.tuple #[.agg #[.int .i64 r1, .int .i64 r2, .int .i64 r3, .string r4], .int .i64 r5, .int .i64 r6]) ∧ Below w.heap.size w w' := by
 refine (value_Take.calls k a0 a1 r1 r2 r3 r4 r5 r6 w h).mono ?_
 rintro e w' ⟨y0, y1⟩
 exact ⟨y0, y1⟩
theorem digest_May.kn {w : World} (k : Nat) {A0 : Option Addr} {c0 : Nat} {l0 : List (S52)} {r : Bool} (h : digest_May.f k l0 = some r) {Q1_ : Nat → Prop} (g1 : (V k52 (.slice A0 l0.length c0) l0).P w Q1_) :
  Calls Try.prog 65 #[.slice A0 l0.length c0] w fun e w' => e = .returned (.bool r) ∧ Below w.heap.size w w' := by
 refine (digest_May.calls k A0 c0 l0 r w (Kd.V_reads' (e := 0) (base := 0) g1).2.2 (Kd.V_reads' (e := 0) (base := 0) g1).2.1 h).mono ?_
 rintro e w' ⟨y0, y1⟩
 exact ⟨y0, y1⟩
end Go.Proofs.Ytjccgdnnnlgeeaa.XKn
namespace Go.Proofs.Ytjccgdnnnlgeeaa.XFr
open Go.RowKit Go.Proofs.YtjccgdnnnlgeeaaW.PrintWords Go.Proofs.YtjccgdnnnlgeeaaW.PrintLast Go.Proofs.YtjccgdnnnlgeeaaW.PrintMore Go.Proofs.Ytjccgdnnnlgeeaa.PA Go.Proofs.Ytjccgdnnnlgeeaa.XMem Go.Proofs.Ytjccgdnnnlgeeaa.XSt Go.Proofs.Ytjccgdnnnlgeeaa.XQuiet Go.Proofs.Ytjccgdnnnlgeeaa.XKn
open Go.Proofs.Ytjccgdnnnlgeeaa.XSum (Se kSe put_calls)
open Go.Proofs.Ytjccgdnnnlgeeaa.XV17 (mayT digMayT_b)
open Go.Proofs.Ytjccgdnnnlgeeaa.XV01 (G)
open Go.Proofs.Ytjccgdnnnlgeeaa.XV04 (VT take_v)
set_option linter.unusedVariables false
set_option linter.unusedSimpArgs false
set_option maxRecDepth 100000
abbrev nf : Value := .nilFunc
abbrev fu (n : Nat) : Value := .func (.func n) #[] #[]
abbrev kindsV : Array Value := #[nf, nf, fu 49, fu 50, fu 51, fu 52, fu 53, fu 55, fu 57, fu 58]
abbrev TFr : Nat := 27
theorem kSe_heap : Kd.Heap kSe := ⟨fun _ hK => by obtain rfl := k52_open hK; exact k52_mk _ _⟩
abbrev cF (f : Fr) (v : Value) : Array Value := #[.int .i64 f.f0, .int .i64 f.f1, .bool f.f2, .string f.f3, .int .i64 f.f4.f0, .int .i64 f.f4.f1, .int .i64 f.f4.f2, .string f.f4.f3, .int .u64 f.f5, v]

set_option maxHeartbeats 4000000 in
theorem kinds_go (ok : Nat → Prop) (w0 w : World) (S : Kn ok w0 [] nil tt [] w) : Calls Try.prog 38 #[] w fun e w' => e = .returned (.agg kindsV) ∧ Below w0.heap.size w0 w' := by
 go_enter Try.func38, Try.ntmps38
 go_upto_region 1 with (fail)
 generalize hg : World.alloc _ _ = w1
 replace S := S.new hg
 clear hg
 generalize w.heap.size = p0 at S ⊢
 replace S : Kn ok w0 [(p0, .cells #[.nilFunc, .nilFunc, .nilFunc, .nilFunc, .nilFunc, .nilFunc, .nilFunc, .nilFunc, .nilFunc, .nilFunc] 65 (0, 0))] nil tt [] w1 := S
 have r_0 : w1.cell? ⟨p0, 0, none⟩ = some .nilFunc := S.cell 0 0 rfl rfl
 have zr_0 : w1.frozen? ⟨p0, 0, none⟩ = false := S.frozen 0 0 rfl
 have r_1 : w1.cell? ⟨p0, 1, none⟩ = some .nilFunc := S.cell 0 1 rfl rfl
 have zr_1 : w1.frozen? ⟨p0, 1, none⟩ = false := S.frozen 0 1 rfl
 have r_2 : w1.cell? ⟨p0, 2, none⟩ = some .nilFunc := S.cell 0 2 rfl rfl
 have zr_2 : w1.frozen? ⟨p0, 2, none⟩ = false := S.frozen 0 2 rfl
 have r_3 : w1.cell? ⟨p0, 3, none⟩ = some .nilFunc := S.cell 0 3 rfl rfl
 have zr_3 : w1.frozen? ⟨p0, 3, none⟩ = false := S.frozen 0 3 rfl
 have r_4 : w1.cell? ⟨p0, 4, none⟩ = some .nilFunc := S.cell 0 4 rfl rfl
 have zr_4 : w1.frozen? ⟨p0, 4, none⟩ = false := S.frozen 0 4 rfl
 have r_5 : w1.cell? ⟨p0, 5, none⟩ = some .nilFunc := S.cell 0 5 rfl rfl
 have zr_5 : w1.frozen? ⟨p0, 5, none⟩ = false := S.frozen 0 5 rfl
 have r_6 : w1.cell? ⟨p0, 6, none⟩ = some .nilFunc := S.cell 0 6 rfl rfl
 have zr_6 : w1.frozen? ⟨p0, 6, none⟩ = false := S.frozen 0 6 rfl
 have r_7 : w1.cell? ⟨p0, 7, none⟩ = some .nilFunc := S.cell 0 7 rfl rfl
 have zr_7 : w1.frozen? ⟨p0, 7, none⟩ = false := S.frozen 0 7 rfl
 have r_8 : w1.cell? ⟨p0, 8, none⟩ = some .nilFunc := S.cell 0 8 rfl rfl
 have zr_8 : w1.frozen? ⟨p0, 8, none⟩ = false := S.frozen 0 8 rfl
 have r_9 : w1.cell? ⟨p0, 9, none⟩ = some .nilFunc := S.cell 0 9 rfl rfl
 have zr_9 : w1.frozen? ⟨p0, 9, none⟩ = false := S.frozen 0 9 rfl
 go_wp2
 clear r_0 zr_0 r_1 zr_1 r_2 zr_2 r_3 zr_3 r_4 zr_4 r_5 zr_5 r_6 zr_6 r_7 zr_7 r_8 zr_8 r_9 zr_9
 generalize hg : World.setCell w1 ⟨p0, 0, none⟩ _ = w2
 replace S := S.set 0 hg rfl
 clear hg
 generalize hg : World.setCell w2 ⟨p0, 1, none⟩ _ = w3
 replace S := S.set 0 hg rfl
 clear hg
 generalize hg : World.setCell w3 ⟨p0, 2, none⟩ _ = w4
 replace S := S.set 0 hg rfl
 clear hg
 generalize hg : World.setCell w4 ⟨p0, 3, none⟩ _ = w5
 replace S := S.set 0 hg rfl
 clear hg
 generalize hg : World.setCell w5 ⟨p0, 4, none⟩ _ = w6
 replace S := S.set 0 hg rfl
 clear hg
 generalize hg : World.setCell w6 ⟨p0, 5, none⟩ _ = w7
 replace S := S.set 0 hg rfl
 clear hg
 generalize hg : World.setCell w7 ⟨p0, 6, none⟩ _ = w8
 replace S := S.set 0 hg rfl
 clear hg
 generalize hg : World.setCell w8 ⟨p0, 7, none⟩ _ = w9
 replace S := S.set 0 hg rfl
 clear hg
 generalize hg : World.setCell w9 ⟨p0, 8, none⟩ _ = w10
 replace S := S.set 0 hg rfl
 clear hg
 generalize hg : World.setCell w10 ⟨p0, 9, none⟩ _ = w11
 replace S := S.set 0 hg rfl
 clear hg
 replace S : Kn ok w0 [(p0, .cells #[nf, nf, fu 49, fu 50, fu 51, fu 52, fu 53, fu 55, fu 57, fu 58] 65 (0, 0))] nil tt [] w11 := S
 have b6 := S.get 0 rfl
 have hBe := S.bel
 clear S
 refine bodyPost_ret (results_cell_row rfl _ _ p0 65 kindsV (0, 0) _ rfl b6 Try.underlying65 rfl (by kernel_rfl)) rfl ?_
 exact ⟨rfl, hBe⟩
theorem kinds_calls (w : World) : Calls Try.prog 38 #[] w fun e w' => e = .returned (.agg kindsV) ∧ Below w.heap.size w w' := kinds_go (fun _ => True) w w (Kn.start _ w)
theorem put06 (l : List Se) (hl : l.length ≤ 40) (hz : ∀ x ∈ l, x.f0.size ≤ 9223372036854775807) (w : World) (v : Value) (h : Im kSe w v l) :
  Calls Try.prog 54 #[v] w fun e w' => e = .returned (.tuple #[.string (putT l).1, .bool (putT l).2]) ∧ Below w.heap.size w w' := by
 have hm := digMayT_b 100 l (by omega) hz (by omega)
 unfold putT
 by_cases c : mayT l = true
 ·rw [if_pos c]
  rw [c] at hm
  have := put_calls 100 l hl hm hz w v h
  rw [tB_ok c] at this
  exact this
 ·rw [if_neg c]
  rw [Bool.eq_false_iff.mpr c] at hm
  obtain ⟨A, cc, rfl, hc, hC⟩ := Im.slice h
  have HC := Aside0.mk (fun w' hb => digest_May.kn (w := w') 100 hm (Ft.below (f := V kSe (.slice A l.length cc) l) h hb))
  clear h hC hc hm c
  go_enter Try.func54, Try.ntmps54
  go_wp2_with (go_at_call 65; refine (HC.out _ (Below.refl _ _)).mono ?_; rintro e w1 ⟨rfl, hb⟩)
  go_ret2
  exact ⟨rfl, hb⟩

set_option maxHeartbeats 4000000 in
theorem rd4 (ok : Nat → Prop) (f : Fr) (v : Value) (p : Nat) (s : ByteArray) (at_ : Int) (hs : s.size ≤ 100000) (h0 : 0 ≤ at_) (h1 : at_ ≤ s.size) (L : List (Nat × Obj)) (u : Value) (U : Ft) (I : List Ft) (w0 w : World) (S : Kn ok w0 ((p, .cells (cF f v) TFr (0, 0)) :: L) u U I w) :
  Calls Try.prog 58 #[.pointer (some ⟨p, 0, none⟩), .string s, .int .i64 at_] w fun e w' => e = .returned (.tuple #[.int .i64 at_, .bool true]) ∧ Kn ok w0 ((p, .cells (cF f v) TFr (0, 0)) :: L) u U I w' := by
 go_enter Try.func58, Try.ntmps58
 go_wp2
 go_ret2
 exact ⟨rfl, S⟩
set_option maxHeartbeats 4000000 in
theorem rd1 (ok : Nat → Prop) (f : Fr) (v : Value) (p : Nat) (s : ByteArray) (at_ : Int) (hs : s.size ≤ 100000) (h0 : 0 ≤ at_) (h1 : at_ ≤ s.size) (L : List (Nat × Obj)) (u : Value) (U : Ft) (I : List Ft) (w0 w : World) (S : Kn ok w0 ((p, .cells (cF f v) TFr (0, 0)) :: L) u U I w) :
  Calls Try.prog 50 #[.pointer (some ⟨p, 0, none⟩), .string s, .int .i64 at_] w fun e w' => e = .returned (.tuple #[.int .i64 (rdDelta f s at_).2.1, .bool (rdDelta f s at_).2.2]) ∧ Kn ok w0 ((p, .cells (cF (rdDelta f s at_).1 v) TFr (0, 0)) :: L) u U I w' := by
 unfold rdDelta
 have h10 : ∀ h : 0 < (⟨#[1]⟩ : ByteArray).size, (((⟨#[1]⟩ : ByteArray)[0]'h).toNat : Int) = 1 := fun _ => rfl
 have hx := bt_at s at_
 have hw : IntKind.i64.wrap (at_ + 1) = at_ + 1 := by rw [IntKind.wrap_i64]; omega
 by_cases c1 : at_ = s.size
 ·rw [if_pos (Or.inl c1)]
  have c1b : (at_ == (s.size : Int)) = true := by rw [c1]; simp
  clear c1
  go_enter Try.func50, Try.ntmps50
  go_wp2_with fail
  refine region_kin (by kernel_rfl) (by kernel_rfl) ?_
  repeat (go_big_quiet_step (fail))
  refine wpQuiet_nil ?_
  rintro w1 ⟨⟨_, hb⟩, rfl⟩
  replace S := S.below hb
  clear hb
  go_wp2
  go_ret2
  exact ⟨rfl, S⟩
 have c1b : (at_ == (s.size : Int)) = false := by simp; exact c1
 have c2 : at_ < (s.size : Int) := by omega
 by_cases c3 : bt s at_ > 1
 ·rw [if_pos (Or.inr c3)]
  have c3b : decide (bt s at_ > 1) = true := decide_eq_true c3
  have c3c : decide (1 < bt s at_) = true := decide_eq_true c3
  clear c3
  go_enter Try.func50, Try.ntmps50
  go_wp2_with fail
  refine region_kin (by kernel_rfl) (by kernel_rfl) ?_
  repeat (go_big_quiet_step (fail))
  refine wpQuiet_nil ?_
  rintro w1 ⟨⟨_, hb⟩, rfl⟩
  replace S := S.below hb
  clear hb
  go_wp2
  go_ret2
  exact ⟨rfl, S⟩
 rw [if_neg (by omega)]
 have c3b : decide (bt s at_ > 1) = false := decide_eq_false c3
 have c3c : decide (1 < bt s at_) = false := decide_eq_false c3
 have HI := Aside0.mk (it_f 100 s (at_ + 1) (by omega) (by omega))
 have HT := Aside0.mk (IT_shape s (at_ + 1) (by omega))
 generalize hit : IT s (at_ + 1) = r at HI HT ⊢
 clear hit
 obtain ⟨r1, r2, r3⟩ := r
 dsimp only at HI HT ⊢
 obtain ⟨on, hon⟩ : ∃ on : Bool, on = decide (bt s at_ = 1) := ⟨_, rfl⟩
 have hbb : (bt s at_ == 1) = on := by rw [hon]; rfl
 have hbd : decide (bt s at_ = 1) = on := hon.symm
 have hbi : bt s at_ = 1 ↔ on = true := by rw [hon, decide_eq_true_iff]
 rw [hbd]
 simp only [hbi]
 have HB := Aside0.mk hbi
 clear hbd hbi hon c3
 by_cases e0 : r3 = 0
 ·subst e0
  cases on with
  | true =>
   rw [if_pos ⟨rfl, rfl⟩]
   have hr2 : r2 ≤ s.size := by rcases HT.out with ⟨e, h, he⟩ | ⟨n, q, h, _, _, _, hq, _⟩ <;> (simp only [Prod.mk.injEq] at h; omega)
   have hr0 : 0 ≤ r2 := by rcases HT.out with ⟨e, h, he⟩ | ⟨n, q, h, _, h0', h1', hq, _⟩ <;> (simp only [Prod.mk.injEq] at h; omega)
   have HV := Aside0.mk (take_v 100 s r2 (by omega) (by omega) (by omega))
   generalize VT s r2 = q at HV ⊢
   obtain ⟨q1, q2, q3, q4, q5, q6⟩ := q
   dsimp only at HV ⊢
   clear HT hr2 hr0
   have hq6 : (q6 == 0) = decide (q6 = 0) := rfl
   go_enter Try.func50, Try.ntmps50
   go_wp2_with fail
   refine region_kin (by kernel_rfl) (by kernel_rfl) ?_
   repeat (go_big_quiet_step (fail))
   refine wpQuiet_nil ?_
   rintro w1 ⟨⟨_, hb⟩, rfl⟩
   replace S := S.below hb
   clear hb
   go_wp2_with fail
   go_still_tail 8, (by kernel_rfl)
   change wpList _ _ _ _ _ w1.drew
   have hb : Below w1.heap.size w1 w1.drew := below_drew1 (Below.refl _ _)
   generalize w1.drew = w2 at hb ⊢
   replace S := S.below hb
   clear hb
   have f_2 : w2.cell? ⟨p, 2, none⟩ = some (.bool f.f2) := S.cell 0 2 rfl rfl
   have zf_2 : w2.frozen? ⟨p, 2, none⟩ = false := S.frozen 0 2 rfl
   go_upto_region 4 with (fail)
   clear f_2 zf_2
   generalize hg : World.setCell w2 ⟨p, 2, none⟩ _ = w3
   replace S := S.set 0 hg rfl
   clear hg
   replace S : Kn ok w0 ((p, .cells #[.int .i64 f.f0, .int .i64 f.f1, .bool true, .string f.f3, .int .i64 f.f4.f0, .int .i64 f.f4.f1, .int .i64 f.f4.f2, .string f.f4.f3, .int .u64 f.f5, v] TFr (0, 0)) :: L) u U (I) w3 := S
   go_wp2_with fail
   refine (ident_Take.kn 100 HI.out).mono ?_
   rintro e w4 ⟨rfl, hb⟩
   replace S := S.below hb
   clear hb HI
   have f_3 : w4.cell? ⟨p, 3, none⟩ = some (.string f.f3) := S.cell 0 3 rfl rfl
   have zf_3 : w4.frozen? ⟨p, 3, none⟩ = false := S.frozen 0 3 rfl
   go_upto_region 6 with (fail)
   clear f_3 zf_3
   generalize hg : World.setCell w4 ⟨p, 3, none⟩ _ = w5
   replace S := S.set 0 hg rfl
   clear hg
   replace S : Kn ok w0 ((p, .cells #[.int .i64 f.f0, .int .i64 f.f1, .bool true, .string r1, .int .i64 f.f4.f0, .int .i64 f.f4.f1, .int .i64 f.f4.f2, .string f.f4.f3, .int .u64 f.f5, v] TFr (0, 0)) :: L) u U (I) w5 := S
   have f_2 : w5.cell? ⟨p, 2, none⟩ = some (.bool true) := S.cell 0 2 rfl rfl
   go_upto_region 8 with (fail)
   clear f_2
   have f_4 : w5.cell? ⟨p, 4, none⟩ = some (.int .i64 f.f4.f0) := S.cell 0 4 rfl rfl
   have zf_4 : w5.frozen? ⟨p, 4, none⟩ = false := S.frozen 0 4 rfl
   have f_5 : w5.cell? ⟨p, 5, none⟩ = some (.int .i64 f.f4.f1) := S.cell 0 5 rfl rfl
   have zf_5 : w5.frozen? ⟨p, 5, none⟩ = false := S.frozen 0 5 rfl
   have f_6 : w5.cell? ⟨p, 6, none⟩ = some (.int .i64 f.f4.f2) := S.cell 0 6 rfl rfl
   have zf_6 : w5.frozen? ⟨p, 6, none⟩ = false := S.frozen 0 6 rfl
   have f_7 : w5.cell? ⟨p, 7, none⟩ = some (.string f.f4.f3) := S.cell 0 7 rfl rfl
   have zf_7 : w5.frozen? ⟨p, 7, none⟩ = false := S.frozen 0 7 rfl
   go_wp2_with fail
   refine (value_Take.kn 100 HV.out).mono ?_
   rintro e w6 ⟨rfl, hb⟩
   replace S := S.below hb
   clear f_4 zf_4 f_5 zf_5 f_6 zf_6 f_7 zf_7 hb HV
   have f_4 : w6.cell? ⟨p, 4, none⟩ = some (.int .i64 f.f4.f0) := S.cell 0 4 rfl rfl
   have zf_4 : w6.frozen? ⟨p, 4, none⟩ = false := S.frozen 0 4 rfl
   have f_5 : w6.cell? ⟨p, 5, none⟩ = some (.int .i64 f.f4.f1) := S.cell 0 5 rfl rfl
   have zf_5 : w6.frozen? ⟨p, 5, none⟩ = false := S.frozen 0 5 rfl
   have f_6 : w6.cell? ⟨p, 6, none⟩ = some (.int .i64 f.f4.f2) := S.cell 0 6 rfl rfl
   have zf_6 : w6.frozen? ⟨p, 6, none⟩ = false := S.frozen 0 6 rfl
   have f_7 : w6.cell? ⟨p, 7, none⟩ = some (.string f.f4.f3) := S.cell 0 7 rfl rfl
   have zf_7 : w6.frozen? ⟨p, 7, none⟩ = false := S.frozen 0 7 rfl
   go_upto_region 9 with (fail)
   clear f_4 zf_4 f_5 zf_5 f_6 zf_6 f_7 zf_7
   generalize hg : World.setCell w6 ⟨p, 4, none⟩ _ = w7
   replace S := S.set 0 hg rfl
   clear hg
   generalize hg : World.setCell w7 ⟨p, 5, none⟩ _ = w8
   replace S := S.set 0 hg rfl
   clear hg
   generalize hg : World.setCell w8 ⟨p, 6, none⟩ _ = w9
   replace S := S.set 0 hg rfl
   clear hg
   generalize hg : World.setCell w9 ⟨p, 7, none⟩ _ = w10
   replace S := S.set 0 hg rfl
   clear hg
   replace S : Kn ok w0 ((p, .cells #[.int .i64 f.f0, .int .i64 f.f1, .bool true, .string r1, .int .i64 q1, .int .i64 q2, .int .i64 q3, .string q4, .int .u64 f.f5, v] TFr (0, 0)) :: L) u U (I) w10 := S
   go_wp2
   go_ret2
   exact ⟨rfl, S⟩
  | false =>
   rw [if_neg (by decide)]
   clear HT
   go_enter Try.func50, Try.ntmps50
   go_wp2_with fail
   refine region_kin (by kernel_rfl) (by kernel_rfl) ?_
   repeat (go_big_quiet_step (fail))
   refine wpQuiet_nil ?_
   rintro w1 ⟨⟨_, hb⟩, rfl⟩
   replace S := S.below hb
   clear hb
   go_wp2_with fail
   go_still_tail 8, (by kernel_rfl)
   change wpList _ _ _ _ _ w1.drew
   have hb : Below w1.heap.size w1 w1.drew := below_drew1 (Below.refl _ _)
   generalize w1.drew = w2 at hb ⊢
   replace S := S.below hb
   clear hb
   have f_2 : w2.cell? ⟨p, 2, none⟩ = some (.bool f.f2) := S.cell 0 2 rfl rfl
   have zf_2 : w2.frozen? ⟨p, 2, none⟩ = false := S.frozen 0 2 rfl
   go_upto_region 4 with (fail)
   clear f_2 zf_2
   generalize hg : World.setCell w2 ⟨p, 2, none⟩ _ = w3
   replace S := S.set 0 hg rfl
   clear hg
   replace S : Kn ok w0 ((p, .cells #[.int .i64 f.f0, .int .i64 f.f1, .bool false, .string f.f3, .int .i64 f.f4.f0, .int .i64 f.f4.f1, .int .i64 f.f4.f2, .string f.f4.f3, .int .u64 f.f5, v] TFr (0, 0)) :: L) u U (I) w3 := S
   go_wp2_with fail
   refine (ident_Take.kn 100 HI.out).mono ?_
   rintro e w4 ⟨rfl, hb⟩
   replace S := S.below hb
   clear hb HI
   have f_3 : w4.cell? ⟨p, 3, none⟩ = some (.string f.f3) := S.cell 0 3 rfl rfl
   have zf_3 : w4.frozen? ⟨p, 3, none⟩ = false := S.frozen 0 3 rfl
   go_upto_region 6 with (fail)
   clear f_3 zf_3
   generalize hg : World.setCell w4 ⟨p, 3, none⟩ _ = w5
   replace S := S.set 0 hg rfl
   clear hg
   replace S : Kn ok w0 ((p, .cells #[.int .i64 f.f0, .int .i64 f.f1, .bool false, .string r1, .int .i64 f.f4.f0, .int .i64 f.f4.f1, .int .i64 f.f4.f2, .string f.f4.f3, .int .u64 f.f5, v] TFr (0, 0)) :: L) u U (I) w5 := S
   have f_2 : w5.cell? ⟨p, 2, none⟩ = some (.bool false) := S.cell 0 2 rfl rfl
   go_wp2
   go_ret2
   exact ⟨rfl, S⟩
 ·have e1 : (r3 != 0) = true := bne_iff_ne.mpr e0
  have e2 : (r3 == 0) = false := beq_eq_false_iff_ne.mpr e0
  rw [if_neg (fun h => e0 h.1), decide_eq_false e0]
  clear HT
  go_enter Try.func50, Try.ntmps50
  go_wp2_with fail
  refine region_kin (by kernel_rfl) (by kernel_rfl) ?_
  repeat (go_big_quiet_step (fail))
  refine wpQuiet_nil ?_
  rintro w1 ⟨⟨_, hb⟩, rfl⟩
  replace S := S.below hb
  clear hb
  go_wp2_with fail
  go_still_tail 8, (by kernel_rfl)
  change wpList _ _ _ _ _ w1.drew
  have hb : Below w1.heap.size w1 w1.drew := below_drew1 (Below.refl _ _)
  generalize w1.drew = w2 at hb ⊢
  replace S := S.below hb
  clear hb
  have f_2 : w2.cell? ⟨p, 2, none⟩ = some (.bool f.f2) := S.cell 0 2 rfl rfl
  have zf_2 : w2.frozen? ⟨p, 2, none⟩ = false := S.frozen 0 2 rfl
  go_upto_region 4 with (fail)
  clear f_2 zf_2
  generalize hg : World.setCell w2 ⟨p, 2, none⟩ _ = w3
  replace S := S.set 0 hg rfl
  clear hg
  replace S : Kn ok w0 ((p, .cells #[.int .i64 f.f0, .int .i64 f.f1, .bool on, .string f.f3, .int .i64 f.f4.f0, .int .i64 f.f4.f1, .int .i64 f.f4.f2, .string f.f4.f3, .int .u64 f.f5, v] TFr (0, 0)) :: L) u U (I) w3 := S
  go_wp2_with fail
  refine (ident_Take.kn 100 HI.out).mono ?_
  rintro e w4 ⟨rfl, hb⟩
  replace S := S.below hb
  clear hb HI
  have f_3 : w4.cell? ⟨p, 3, none⟩ = some (.string f.f3) := S.cell 0 3 rfl rfl
  have zf_3 : w4.frozen? ⟨p, 3, none⟩ = false := S.frozen 0 3 rfl
  go_upto_region 6 with (fail)
  clear f_3 zf_3
  generalize hg : World.setCell w4 ⟨p, 3, none⟩ _ = w5
  replace S := S.set 0 hg rfl
  clear hg
  replace S : Kn ok w0 ((p, .cells #[.int .i64 f.f0, .int .i64 f.f1, .bool on, .string r1, .int .i64 f.f4.f0, .int .i64 f.f4.f1, .int .i64 f.f4.f2, .string f.f4.f3, .int .u64 f.f5, v] TFr (0, 0)) :: L) u U (I) w5 := S
  have f_2 : w5.cell? ⟨p, 2, none⟩ = some (.bool on) := S.cell 0 2 rfl rfl
  go_wp2
  go_ret2
  exact ⟨rfl, S⟩
theorem bytes_block (w : World) (s : ByteArray) (hs : s.size ≤ 9223372036854775807) : ∃ o, (Lib.bytesWorld w 5 s).heap[w.heap.size]? = some o ∧ ∀ w' : World, w'.heap[w.heap.size]? = some o → ∀ j, j < s.size → w'.cell? ⟨w.heap.size, j, none⟩ = some (.int .u8 (bt s (j : Int))) := by
 refine ⟨_, Lib.bytesWorld_at_new w 5 s, fun w' hw' j hj => ?_⟩
 have h1 := Lib.bytesWorld_cell w 5 s j hj
 have h2 := Lib.bytesWorld_at_new w 5 s
 simp only [World.cell?, h2] at h1
 simp only [World.cell?, hw']
 rw [h1]
 have hj' : j < s.data.toList.length := by rw [data_length]; exact hj
 rw [XBytes.bt_eq, Int.toNat_natCast]
theorem or8 (h b : Int) (h0 : 0 ≤ h) (h1 : h < 72057594037927936) (b0 : 0 ≤ b) (b1 : b ≤ 255) : Go.bits .or .u64 (IntKind.u64.wrap (h * 256)) (IntKind.u64.wrap b) = 256 * h + b := by
 rw [XVar.wrap_u64 _ (by omega) (by omega), XVar.wrap_u64 _ (by omega) (by omega)]
 obtain ⟨x, rfl⟩ := Int.eq_ofNat_of_zero_le h0
 obtain ⟨y, rfl⟩ := Int.eq_ofNat_of_zero_le b0
 rw [show ((x : Int) * 256) = ((x * 256 : Nat) : Int) by omega, u64_or_nat (x * 256) y (by omega) (by omega), nat_join 8 _ _ (by omega) (by omega)]
 omega
theorem num8_range (s : ByteArray) (p : Int) : ∀ i : Nat, i ≤ 8 → 0 ≤ num8 s p i ∧ num8 s p i < 256 ^ i
 | 0, _ => by simp [num8]
 | i + 1, hi => by
  have h1 := num8_range s p i (by omega)
  have h2 := bt_range s (p + i)
  rw [num8, Int.pow_succ]
  omega
set_option maxHeartbeats 4000000 in
theorem rd2 (ok : Nat → Prop) (f : Fr) (v : Value) (p : Nat) (s : ByteArray) (at_ : Int) (hs : s.size ≤ 100000) (h0 : 0 ≤ at_) (h1 : at_ ≤ s.size) (L : List (Nat × Obj)) (u : Value) (U : Ft) (I : List Ft) (w0 w : World) (S : Kn ok w0 ((p, .cells (cF f v) TFr (0, 0)) :: L) u U I w) (hf5 : f.f5 = 0) :
  Calls Try.prog 52 #[.pointer (some ⟨p, 0, none⟩), .string s, .int .i64 at_] w fun e w' => e = .returned (.tuple #[.int .i64 (if (s.size : Int) - at_ < 8 then (0 : Int) else at_ + 8), .bool (if (s.size : Int) - at_ < 8 then false else true)]) ∧ Kn ok w0 ((p, .cells (cF (if (s.size : Int) - at_ < 8 then f else ⟨f.f0, f.f1, f.f2, f.f3, f.f4, num8 s at_ 8, f.f6⟩) v) TFr (0, 0)) :: L) u U I w' := by
 have hw : IntKind.i64.wrap ((s.size : Int) - at_) = s.size - at_ := by rw [IntKind.wrap_i64]; omega
 have hw2 : IntKind.i64.wrap (at_ + 8) = at_ + 8 := by rw [IntKind.wrap_i64]; omega
 by_cases c : (s.size : Int) - at_ < 8
 ·simp only [if_pos c]
  go_enter Try.func52, Try.ntmps52
  go_wp2
  go_ret2
  exact ⟨rfl, S⟩
 simp only [if_neg c]
 have h8 : at_ + 8 ≤ s.size := by omega
 have h80 : (0 : Int) ≤ at_ + 8 := by omega
 have h81 : at_ ≤ at_ + 8 := by omega
 have hz : (s.extract at_.toNat (at_ + 8).toNat).size = 8 := by rw [XBytes.ext_size]; omega
 have hbt : ∀ j : Nat, j < 8 → bt (s.extract at_.toNat (at_ + 8).toNat) (j : Int) = bt s (at_ + j) := fun j hj => by rw [XBytes.bt_ext s _ _ _ (by omega) (by omega)]; congr 1; omega
 have kb := print_bytes (P := Try.prog) 9 40 5 Try.underlying9 Try.underlying40 Try.underlying5 (s.extract at_.toNat (at_ + 8).toNat) w
 obtain ⟨o, ho1, ho2⟩ := bytes_block w (s.extract at_.toNat (at_ + 8).toNat) (by omega)
 have hbb := bytes_below (Below.refl _ w) (Nat.le_refl _) 5 (s.extract at_.toNat (at_ + 8).toNat)
 rw [hz] at kb ho2
 have HO := Aside0.mk (fun (w' : World) (h : w'.heap[w.heap.size]? = some o) (j : Nat) (hj : j < 8) => (hbt j hj) ▸ ho2 w' h j hj)
 clear ho2 hbt hz
 generalize Lib.bytesWorld w 5 (s.extract at_.toNat (at_ + 8).toNat) = W at kb ho1 hbb
 generalize grownCap w 8 0 5 = cp at kb
 replace S := S.newAt hbb (Nat.le_refl _) ho1
 generalize w.heap.size = g at kb S HO
 clear ho1 hbb
 have HR := Aside0.mk (num8_range s at_)
 have HS := Aside0.mk S
 clear S
 go_enter Try.func52, Try.ntmps52
 go_wp2
 go_loopw [9, 22] (fun b x wr => ∃ i : Nat, x = .int .i64 i ∧ i ≤ 8 ∧ Aside0 (Kn ok w0 ((g, o) :: (p, .cells #[.int .i64 f.f0, .int .i64 f.f1, .bool f.f2, .string f.f3, .int .i64 f.f4.f0, .int .i64 f.f4.f1, .int .i64 f.f4.f2, .string f.f4.f3, .int .u64 (num8 s at_ i), v] TFr (0, 0)) :: L) u U I wr)) (fun _ x _ => 8 - (intOf x).toNat)
 case atStart =>
  have S := HS.out
  rw [show cF f v = #[.int .i64 f.f0, .int .i64 f.f1, .bool f.f2, .string f.f3, .int .i64 f.f4.f0, .int .i64 f.f4.f1, .int .i64 f.f4.f2, .string f.f4.f3, .int .u64 (num8 s at_ 0), v] from by show _ = _; unfold cF; rw [hf5]; rfl] at S
  exact ⟨0, rfl, Nat.zero_le _, ⟨S⟩⟩
 case round =>
  clear HS
  obtain ⟨i, rfl, hi, hA⟩ := hrel
  have S := hA.out
  clear hA
  by_cases hlt : i < 8
  ·have k2 : (i : Int) < 8 := by omega
   have k0 : (0 : Int) ≤ (i : Int) := by omega
   have hc := HO.out wr (S.get 0 rfl) i hlt
   have hr := HR.out i hi
   have hp7 : (256 : Int) ^ i ≤ 72057594037927936 := by rcases (by omega : i = 0 ∨ i = 1 ∨ i = 2 ∨ i = 3 ∨ i = 4 ∨ i = 5 ∨ i = 6 ∨ i = 7) with h | h | h | h | h | h | h | h <;> (rw [h]; decide)
   have hbr := bt_range s (at_ + i)
   have HST := Aside0.mk (or8 (num8 s at_ i) (bt s (at_ + i)) (by omega) (by omega) (by omega) (by omega))
   have hnx : num8 s at_ (i + 1) = 256 * num8 s at_ i + bt s (at_ + i) := rfl
   rw [← hnx] at HST
   clear hnx hr hp7 hbr
   have f_8 : wr.cell? ⟨p, 8, none⟩ = some (.int .u64 (num8 s at_ i)) := S.cell 1 8 rfl rfl
   have zf_8 : wr.frozen? ⟨p, 8, none⟩ = false := S.frozen 1 8 rfl
   generalize bt s (at_ + i) = bb at HST hc
   skip
   go_wp2_with fail
   rw [HST.out]
   clear f_8 zf_8
   generalize hg : World.setCell wr ⟨p, 8, none⟩ _ = w1
   replace S := S.set 1 hg rfl
   clear hg
   replace S : Kn ok w0 ((g, o) :: (p, .cells #[.int .i64 f.f0, .int .i64 f.f1, .bool f.f2, .string f.f3, .int .i64 f.f4.f0, .int .i64 f.f4.f1, .int .i64 f.f4.f2, .string f.f4.f3, .int .u64 (num8 s at_ (i + 1)), v] TFr (0, 0)) :: L) u U (I) w1 := S
   go_roundw
   case rel => exact ⟨i + 1, by go_num, by omega, ⟨S⟩⟩
   case measure => simp [intOf]; omega
  ·obtain rfl : i = 8 := by omega
   have S2 := S.pop 1
   clear S
   go_wp2
   go_ret2
   exact ⟨rfl, S2⟩
theorem get_calls (s : ByteArray) (p : Int) (hs : s.size ≤ 140737488351232) (w : World) : Calls Try.prog 42 #[.string s, .int .i64 p] w fun e w' => e = .returned (.tuple #[.int .u64 (G s p).1, .int .i64 (G s p).2.1, .int .i64 (G s p).2.2]) ∧ Below w.heap.size w w' := by
 refine (varint_Get.calls s p _ _ _ w (XV01.get_f s p hs)).mono ?_
 rintro e w' ⟨rfl, hw⟩
 exact ⟨rfl, by first | exact hw | (obtain rfl := hw; exact Below.refl _ _) | exact hw.below | (obtain ⟨nd, rfl⟩ := hw; exact pw_below_drewN (Below.refl _ _) nd)⟩
set_option maxHeartbeats 8000000 in
theorem take_go (ok : Nat → Prop) (s : ByteArray) (p : Int) (hs : s.size ≤ 100000) (w0 w : World) (S : Kn ok w0 [] nil tt [] w) :
  Calls Try.prog 56 #[.string s, .int .i64 p] w fun e w' => ∃ A c, e = .returned (.tuple #[.slice A (TT s p).1.length c, .int .i64 (TT s p).2.1, .int .i64 (TT s p).2.2]) ∧ (V kSe (.slice A (TT s p).1.length c) (TT s p).1).P w' (fun k => ok k ∨ w0.heap.size ≤ k) ∧ Below w0.heap.size w0 w' := by
 have HG := Aside0.mk (get_calls s p (by omega))
 have HGs := Aside0.mk (XV01.G_shape s p)
 unfold TT
 rcases hg : G s p with ⟨n, q, e0⟩
 rw [hg] at HG HGs
 dsimp only at HG HGs ⊢
 by_cases c0 : e0 = 0
 rotate_left
 ·have c0b : (e0 != 0) = true := bne_iff_ne.mpr c0
  simp only [if_neg c0]
  clear HGs c0
  go_enter Try.func56, Try.ntmps56
  go_wp2_with fail
  refine (HG.out _).mono ?_
  rintro e w1 ⟨rfl, hb⟩
  replace S := S.below hb
  clear hb HG
  go_wp2
  go_ret3
  exact ⟨none, 0, rfl, V_any (Kd.V_nil kSe 0 _ 0 _), S.bel⟩
 subst c0
 simp only [if_true]
 by_cases c1 : n > 32
 ·have c1b : decide (n > 32) = true := decide_eq_true c1
  simp only [if_pos c1]
  have c1d : decide (32 < n) = true := decide_eq_true c1
  clear HGs
  go_enter Try.func56, Try.ntmps56
  go_wp2_with fail
  refine (HG.out _).mono ?_
  rintro e w1 ⟨rfl, hb⟩
  replace S := S.below hb
  clear hb HG
  go_wp2
  go_ret3
  exact ⟨none, 0, rfl, V_any (Kd.V_nil kSe 0 _ 0 _), S.bel⟩
 simp only [if_neg c1]
 obtain ⟨hn0, hq0, hq1⟩ : 0 ≤ n ∧ 0 ≤ q ∧ q ≤ s.size := by rcases HGs.out with ⟨e, h, he⟩ | ⟨n', q', h, hp, h1, h2, h3, h4, _⟩ <;> (simp only [Prod.mk.injEq] at h; omega)
 obtain ⟨m, rfl⟩ : ∃ m : Nat, n = m := ⟨n.toNat, by omega⟩
 have hm : m ≤ 32 := by omega
 have c1b : decide ((m : Int) > 32) = false := decide_eq_false c1
 have c1d : decide ((32 : Int) < (m : Int)) = false := decide_eq_false c1
 rw [Int.toNat_natCast]
 clear HGs hg hn0 c1
 generalize hR : takeRows s m q [] = R
 have HR := Aside0.mk hR
 clear hR
 generalize hF : (if R.2.2 = 0 then if mayT R.1 = true then R else ([], 0, 3) else R) = F
 have HF := Aside0.mk hF
 clear hF
 go_enter Try.func56, Try.ntmps56
 go_wp2_with fail
 refine (HG.out _).mono ?_
 rintro e w1 ⟨rfl, hb⟩
 replace S := S.below hb
 clear hb HG
 have HS : Kn ok w0 [] nil (N kSe 52 w0.heap.size nil []) [] w1 := S.opened (v := nil) (U' := N kSe 52 w0.heap.size nil []) (Kd.N_nil kSe 52 _ _ _) rfl
 have HS := Aside0.mk HS
 clear S
 go_wp2
 go_loopw [8, 9, 10, 27] (fun v8 v9 v10 v27 wr => ∃ (i : Nat) (tq : Int) (out : List Se), v27 = .int .u64 i ∧ i ≤ m ∧ v8 = .int .i64 tq ∧ v9 = .int .i64 0 ∧ Aside0 (takeRows s (m - i) tq out = R ∧ out.length = i ∧ 0 ≤ tq ∧ tq ≤ s.size ∧ ∀ x ∈ out, x.f0.size ≤ 100000) ∧ Aside0 (Kn ok w0 [] v10 (N kSe 52 w0.heap.size v10 out) [] wr)) (fun _ _ _ x _ => m - (intOf x).toNat)
 case atStart => exact ⟨0, q, [], rfl, Nat.zero_le _, rfl, rfl, ⟨HR.out, rfl, hq0, hq1, fun x hx => (nomatch hx)⟩, HS⟩
 case round =>
  clear HS HR
  obtain ⟨i, tq, out, rfl, hi, rfl, rfl, hA, hK⟩ := hrel
  have S := hK.out
  clear hK
  by_cases hlt : i < m
  rotate_left
  ·obtain rfl : i = m := by omega
   have hA' := hA.out
   clear hA
   rw [Nat.sub_self, takeRows] at hA'
   obtain ⟨hT, hl, _, _, hN⟩ := hA'
   subst hT
   have hF := HF.out
   clear HF
   rw [if_pos rfl] at hF
   dsimp only at hF
   obtain ⟨A, c, rfl⟩ : ∃ A c, u10 = .slice A out.length c := Kd.N_slice S.own
   replace S := S.shut (U' := V kSe (.slice A out.length c) out) (fun h => N_any h)
   replace S : Kn ok w0 [] nil tt [V kSe (.slice A out.length c) out] wr := S
   have hnm : ∀ x ∈ out, x.f0.size ≤ 9223372036854775807 := fun x hx => by have := hN x hx; omega
   have HD := Aside0.mk (digMayT_b 100 out (by omega) hnm (by omega))
   clear hl
   generalize hb0 : mayT out = b0 at HD hF
   clear hb0 hnm hN
   go_wp2_with fail
   refine (digest_May.kn 100 HD.out (S.ft 0 rfl)).mono ?_
   rintro e w2 ⟨rfl, hb⟩
   replace S := S.below hb
   clear hb HD
   cases b0 with
   | false =>
    rw [if_neg (by decide)] at hF
    obtain rfl := hF
    go_wp2
    go_ret3
    exact ⟨none, 0, rfl, V_any (Kd.V_nil kSe 0 _ 0 _), S.bel⟩
   | true =>
    rw [if_pos rfl] at hF
    obtain rfl := hF
    go_wp2
    go_ret3
    exact ⟨A, c, rfl, S.out 0 rfl, S.bel⟩
  have k2 : (i : Int) < (m : Int) := by omega
  obtain ⟨hT, hl, ht0, ht1, hN⟩ := hA.out
  have HN := Aside0.mk hN
  clear hN
  clear hA
  have HL := Aside0.mk hl
  clear hl
  rw [show m - i = (m - i - 1) + 1 by omega, takeRows] at hT
  have HI := Aside0.mk (it_f 100 s tq (by omega) (by omega))
  have HIs := Aside0.mk (IT_shape s tq (by omega))
  generalize IT s tq = r at hT HI HIs
  obtain ⟨r1, r2, r3⟩ := r
  dsimp only at hT HI HIs
  have HT := Aside0.mk hT
  clear hT
  go_upto_region 10 with (fail)
  generalize hg : World.alloc _ _ = w2
  replace S := S.new hg
  clear hg
  generalize wr.heap.size = px at S ⊢
  replace S : Kn ok w0 [(px, .cells #[.string ⟨#[]⟩, .int .i64 0, .int .i64 0, .int .i64 0, .string ⟨#[]⟩] 52 (0, 0))] u10 (N kSe 52 w0.heap.size u10 out) [] w2 := S
  have x_0 : w2.cell? ⟨px, 0, none⟩ = some (.string ⟨#[]⟩) := S.cell 0 0 rfl rfl
  have zx_0 : w2.frozen? ⟨px, 0, none⟩ = false := S.frozen 0 0 rfl
  go_wp2_with fail
  refine (ident_Take.kn 100 HI.out).mono ?_
  rintro e w3 ⟨rfl, hb⟩
  replace S := S.below hb
  clear x_0 zx_0 hb HI
  have x_0 : w3.cell? ⟨px, 0, none⟩ = some (.string ⟨#[]⟩) := S.cell 0 0 rfl rfl
  have zx_0 : w3.frozen? ⟨px, 0, none⟩ = false := S.frozen 0 0 rfl
  go_upto_region 11 with (fail)
  clear x_0 zx_0
  generalize hg : World.setCell w3 ⟨px, 0, none⟩ _ = w4
  replace S := S.set 0 hg rfl
  clear hg
  replace S : Kn ok w0 [(px, .cells #[.string r1, .int .i64 0, .int .i64 0, .int .i64 0, .string ⟨#[]⟩] 52 (0, 0))] u10 (N kSe 52 w0.heap.size u10 out) [] w4 := S
  by_cases e0 : r3 = 0
  rotate_left
  ·have e0b : (r3 != 0) = true := bne_iff_ne.mpr e0
   have hT' := HT.out
   rw [if_neg e0] at hT'
   clear HT HIs
   have hF := HF.out
   obtain rfl := hT'
   rw [if_neg (by exact e0)] at hF
   obtain rfl := hF
   clear HF
   go_wp2
   go_ret3
   exact ⟨none, 0, rfl, V_any (Kd.V_nil kSe 0 _ 0 _), S.bel⟩
  subst e0
  have hr1 : r1.size ≤ 100000 := by rcases HIs.out with ⟨e, h, he⟩ | ⟨n, q, h, hn, _⟩ <;> simp only [Prod.mk.injEq] at h; (obtain ⟨rfl, _⟩ := h; exact Nat.zero_le _); (obtain ⟨rfl, _⟩ := h; have := isB_16 hn; omega)
  have HR1 := Aside0.mk hr1
  clear hr1
  have hT := HT.out
  rw [if_pos rfl] at hT
  clear HT
  have hr2 : 0 ≤ r2 ∧ r2 ≤ s.size := by rcases HIs.out with ⟨e, h, he⟩ | ⟨n, q, h, _, h0', h1', hq, _⟩ <;> (simp only [Prod.mk.injEq] at h; omega)
  clear HIs
  have HV := Aside0.mk (take_v 100 s r2 (by omega) (by omega) (by omega))
  have HVs := Aside0.mk (XV04.VT_shape s r2 (by omega))
  generalize VT s r2 = qv at hT HV HVs
  obtain ⟨q1, q2, q3, q4, q5, q6⟩ := qv
  dsimp only at hT HV HVs
  have HT := Aside0.mk hT
  clear hT hr2
  have x_1 : w4.cell? ⟨px, 1, none⟩ = some (.int .i64 0) := S.cell 0 1 rfl rfl
  have zx_1 : w4.frozen? ⟨px, 1, none⟩ = false := S.frozen 0 1 rfl
  have x_2 : w4.cell? ⟨px, 2, none⟩ = some (.int .i64 0) := S.cell 0 2 rfl rfl
  have zx_2 : w4.frozen? ⟨px, 2, none⟩ = false := S.frozen 0 2 rfl
  have x_3 : w4.cell? ⟨px, 3, none⟩ = some (.int .i64 0) := S.cell 0 3 rfl rfl
  have zx_3 : w4.frozen? ⟨px, 3, none⟩ = false := S.frozen 0 3 rfl
  have x_4 : w4.cell? ⟨px, 4, none⟩ = some (.string ⟨#[]⟩) := S.cell 0 4 rfl rfl
  have zx_4 : w4.frozen? ⟨px, 4, none⟩ = false := S.frozen 0 4 rfl
  go_wp2_with fail
  refine (value_Take.kn 100 HV.out).mono ?_
  rintro e w5 ⟨rfl, hb⟩
  replace S := S.below hb
  clear x_1 zx_1 x_2 zx_2 x_3 zx_3 x_4 zx_4 hb HV
  have x_1 : w5.cell? ⟨px, 1, none⟩ = some (.int .i64 0) := S.cell 0 1 rfl rfl
  have zx_1 : w5.frozen? ⟨px, 1, none⟩ = false := S.frozen 0 1 rfl
  have x_2 : w5.cell? ⟨px, 2, none⟩ = some (.int .i64 0) := S.cell 0 2 rfl rfl
  have zx_2 : w5.frozen? ⟨px, 2, none⟩ = false := S.frozen 0 2 rfl
  have x_3 : w5.cell? ⟨px, 3, none⟩ = some (.int .i64 0) := S.cell 0 3 rfl rfl
  have zx_3 : w5.frozen? ⟨px, 3, none⟩ = false := S.frozen 0 3 rfl
  have x_4 : w5.cell? ⟨px, 4, none⟩ = some (.string ⟨#[]⟩) := S.cell 0 4 rfl rfl
  have zx_4 : w5.frozen? ⟨px, 4, none⟩ = false := S.frozen 0 4 rfl
  go_upto_region 14 with (fail)
  clear x_1 zx_1 x_2 zx_2 x_3 zx_3 x_4 zx_4
  generalize hg : World.setCell w5 ⟨px, 1, none⟩ _ = w6
  replace S := S.set 0 hg rfl
  clear hg
  generalize hg : World.setCell w6 ⟨px, 2, none⟩ _ = w7
  replace S := S.set 0 hg rfl
  clear hg
  generalize hg : World.setCell w7 ⟨px, 3, none⟩ _ = w8
  replace S := S.set 0 hg rfl
  clear hg
  generalize hg : World.setCell w8 ⟨px, 4, none⟩ _ = w9
  replace S := S.set 0 hg rfl
  clear hg
  replace S : Kn ok w0 [(px, .cells #[.string r1, .int .i64 q1, .int .i64 q2, .int .i64 q3, .string q4] 52 (0, 0))] u10 (N kSe 52 w0.heap.size u10 out) [] w9 := S
  by_cases e0 : q6 = 0
  rotate_left
  ·have e0b : (q6 != 0) = true := bne_iff_ne.mpr e0
   have hT' := HT.out
   rw [if_neg e0] at hT'
   clear HT HVs
   have hF := HF.out
   obtain rfl := hT'
   rw [if_neg (by exact e0)] at hF
   obtain rfl := hF
   clear HF
   go_wp2
   go_ret3
   exact ⟨none, 0, rfl, V_any (Kd.V_nil kSe 0 _ 0 _), S.bel⟩
  subst e0
  have hT := HT.out
  rw [if_pos rfl] at hT
  clear HT
  have hq5 : 0 ≤ q5 ∧ q5 ≤ s.size := by rcases HVs.out with ⟨e, h, he⟩ | ⟨_, _, _, _, q, h, _, h0', h1', hq, _⟩ <;> (first | (simp only [XV04.er, Prod.mk.injEq] at h; omega) | (simp only [Prod.mk.injEq] at h; omega))
  clear HVs
  have HT := Aside0.mk hT
  clear hT
  have x_0 : w9.cell? ⟨px, 0, none⟩ = some (.string r1) := S.cell 0 0 rfl rfl
  have x_1 : w9.cell? ⟨px, 1, none⟩ = some (.int .i64 q1) := S.cell 0 1 rfl rfl
  have x_2 : w9.cell? ⟨px, 2, none⟩ = some (.int .i64 q2) := S.cell 0 2 rfl rfl
  have x_3 : w9.cell? ⟨px, 3, none⟩ = some (.int .i64 q3) := S.cell 0 3 rfl rfl
  have x_4 : w9.cell? ⟨px, 4, none⟩ = some (.string q4) := S.cell 0 4 rfl rfl
  have hfk : Kd.FK kSe w9 (Ap ok w0 [(px, .cells #[.string r1, .int .i64 q1, .int .i64 q2, .int .i64 q3, .string q4] 52 (0, 0))] u10) (⟨r1, ⟨q1, q2, q3, q4⟩⟩ : Se) [.string r1, .int .i64 q1, .int .i64 q2, .int .i64 q3, .string q4] := fun W2 _ => k52_mk W2 (⟨r1, ⟨q1, q2, q3, q4⟩⟩ : Se)
  have HSS := Aside0.mk S
  have HP := Aside0.mk hfk
  clear S hfk
  go_upto_region 17 with ((with_reducible refine gate_builtin (b := .append) (xs := #[.tmp 51, .tmp 53]) rfl ?_); (try (refine gate_guard (by rfl) ?_; dsimp only)); at_builtin; refine Kd.N_append kSe (w0 := w0) w0.heap.size rfl (.tmp 51) (.tmp 53) 25 52 (.agg #[(.string ⟨#[]⟩), (.int .i64 0), (.int .i64 0), (.int .i64 0), (.string ⟨#[]⟩)]) 56 rfl Try.underlying25 info52 rfl (by decide) (by omega) u10 out (⟨r1, ⟨q1, q2, q3, q4⟩⟩ : Se) [.string r1, .int .i64 q1, .int .i64 q2, .int .i64 q3, .string q4] (Fp ok w0 _) (Ap ok w0 _ u10) rfl rfl HP.out (fun _ hk => hk) ?aF HSS.out.own HSS.out.bel HSS.out.bel.size ?aL ?_; (case aF => exact (fun k hk => ⟨.inr (Nat.le_trans HSS.out.bel.size hk), fun x hx => by have := HSS.out.lt hx; omega⟩)); (case aL => have := HL.out; omega); intro v1 y1 ho hb hg hat)
  have S := HSS.out.grown (U' := N kSe 52 w0.heap.size v1 (out ++ [(⟨r1, ⟨q1, q2, q3, q4⟩⟩ : Se)])) ho hb hg hat (Kd.N_lt ho)
  clear HSS HP ho hb hg hat
  clear x_0 x_1 x_2 x_3 x_4
  replace S : Kn ok w0 [(px, .cells #[.string r1, .int .i64 q1, .int .i64 q2, .int .i64 q3, .string q4] 52 (0, 0))] v1 (N kSe 52 w0.heap.size v1 (out ++ [(⟨r1, ⟨q1, q2, q3, q4⟩⟩ : Se)])) [] y1 := S
  replace S := S.pop 1
  replace S : Kn ok w0 [] v1 (N kSe 52 w0.heap.size v1 (out ++ [(⟨r1, ⟨q1, q2, q3, q4⟩⟩ : Se)])) [] y1 := S
  go_wp2
  go_roundw
  case rel => exact ⟨i + 1, q5, out ++ [(⟨r1, ⟨q1, q2, q3, q4⟩⟩ : Se)], by go_num, by omega, rfl, rfl, ⟨by rw [show m - (i + 1) = m - i - 1 by omega]; exact HT.out, by simp [HL.out], hq5.1, hq5.2, fun x hx => by rcases List.mem_append.1 hx with hx | hx; exact HN.out x hx; obtain rfl := List.mem_singleton.1 hx; exact HR1.out⟩, ⟨S⟩⟩
  case measure => simp [intOf]; omega
theorem take_calls (s : ByteArray) (p : Int) (hs : s.size ≤ 100000) (w : World) : Calls Try.prog 56 #[.string s, .int .i64 p] w fun e w' => ∃ A c, e = .returned (.tuple #[.slice A (TT s p).1.length c, .int .i64 (TT s p).2.1, .int .i64 (TT s p).2.2]) ∧ (V kSe (.slice A (TT s p).1.length c) (TT s p).1).P w' (fun k => w.heap.size ≤ k) ∧ Below w.heap.size w w' := by
 refine (take_go (fun _ => False) s p hs w w (Kn.start _ w)).mono ?_
 rintro e w' ⟨A, c, rfl, hV, hb⟩
 exact ⟨A, c, rfl, Ft.mono _ hV (fun k hk => hk.resolve_left id), hb⟩
set_option maxHeartbeats 4000000 in
theorem rd3 (ok : Nat → Prop) (f : Fr) (v : Value) (p : Nat) (s : ByteArray) (at_ : Int) (hs : s.size ≤ 100000) (h0 : 0 ≤ at_) (h1 : at_ ≤ s.size) (L : List (Nat × Obj)) (u : Value) (U : Ft) (I : List Ft) (w0 w : World) (S : Kn ok w0 ((p, .cells (cF f v) TFr (0, 0)) :: L) u U I w) :
  Calls Try.prog 55 #[.pointer (some ⟨p, 0, none⟩), .string s, .int .i64 at_] w fun e w' => ∃ A c, e = .returned (.tuple #[.int .i64 (TT s at_).2.1, .bool (decide ((TT s at_).2.2 = 0))]) ∧ Kn ok w0 ((p, .cells (cF (⟨f.f0, f.f1, f.f2, f.f3, f.f4, f.f5, (TT s at_).1⟩ : Fr) (.slice A (TT s at_).1.length c)) TFr (0, 0)) :: L) u U ((V kSe (.slice A (TT s at_).1.length c) (TT s at_).1) :: I) w' := by
 have HT := Aside0.mk (take_calls s at_ hs)
 generalize TT s at_ = r at HT ⊢
 obtain ⟨t, r2, r3⟩ := r
 dsimp only at HT ⊢
 have hq6 : (r3 == 0) = decide (r3 = 0) := rfl
 go_enter Try.func55, Try.ntmps55
 go_wp2_with fail
 refine (HT.out _).mono ?_
 rintro e w1 ⟨A, c, rfl, hV, hb⟩
 replace S := S.call (f := (V kSe (.slice A t.length c) t)) hb (Ft.mono _ hV (fun k hk => Or.inr hk))
 clear hb HT hV
 have f_9 : w1.cell? ⟨p, 9, none⟩ = some v := S.cell 0 9 rfl rfl
 have zf_9 : w1.frozen? ⟨p, 9, none⟩ = false := S.frozen 0 9 rfl
 go_upto_region 3 with (fail)
 clear f_9 zf_9
 generalize hg : World.setCell w1 ⟨p, 9, none⟩ _ = w2
 replace S := S.set 0 hg rfl
 clear hg
 replace S : Kn ok w0 ((p, .cells #[.int .i64 f.f0, .int .i64 f.f1, .bool f.f2, .string f.f3, .int .i64 f.f4.f0, .int .i64 f.f4.f1, .int .i64 f.f4.f2, .string f.f4.f3, .int .u64 f.f5, .slice A t.length c] TFr (0, 0)) :: L) u U ((V kSe (.slice A t.length c) t) :: I) w2 := S
 go_wp2
 go_ret2
 exact ⟨A, c, rfl, S⟩
end Go.Proofs.Ytjccgdnnnlgeeaa.XFr
end
