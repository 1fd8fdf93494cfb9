-- Several texts in one, without what the law does not use (wip/tools/bundle.py).
import Derived.Test.YtmigglldahkngaaBLinkEmits3

section
-- Written by a program of this session (wip/tools/xprint.py), which drives the kit's print.
namespace Go.Proofs.Ytmigglldahkngaa.PA
open Go.RowKit Go.Proofs.YtmigglldahkngaaW.PrintWords Go.Proofs.YtmigglldahkngaaW.PrintLast Go.Proofs.YtmigglldahkngaaW.PrintMore Go.Proofs.Ytmigglldahkngaa.XQuiet
attribute [local go_sem] max2_int min2_int max_two min_two   -- for this text's walks alone
set_option linter.unusedVariables false
set_option linter.unusedSimpArgs false

/-! ### rollcallref05_May: function 27 -/
def rollcallref05_May.l0 : Nat → List (S72) → Int → Option (Bool)
 | 0, _, _ => none
 | k + 1, x0, x3 => if x3 < (x0.length : Int) then (if 0 ≤ x3 then ((rollcallref03_Is.f k ((rd_T72 x0 x3).f0)).bind fun t312 => (if t312 = true then ((rollcallref04_May.f k ((rd_T72 x0 x3).f1.f0) ((rd_T72 x0 x3).f1.f1) ((rd_T72 x0 x3).f1.f2) ((rd_T72 x0 x3).f1.f3)).bind fun t314 => (if t314 = true then (if x3 > 0 then (if 0 ≤ (wrap64 (x3 - 1)) then (if (wrap64 (x3 - 1)) < (x0.length : Int) then ((rollcallref03_Less.f ((rd_T72 x0 (wrap64 (x3 - 1))).f0) ((rd_T72 x0 x3).f0)).bind fun t317 => (if t317 = true then (rollcallref05_May.l0 k x0 (wrap64 (x3 + 1))) else (some false))) else (none)) else (none)) else (rollcallref05_May.l0 k x0 (wrap64 (x3 + 1)))) else (some false))) else (some false))) else (none)) else (some true)
def rollcallref05_May.f (k : Nat) (l0 : List (S72)) : Option (Bool) := if (l0.length : Int) > 32 then (some false) else (rollcallref05_May.l0 k l0 0)
set_option maxHeartbeats 8000000 in
set_option maxRecDepth 100000 in
theorem rollcallref05_May.calls (k : Nat) (A0 : Option Addr) (c0 : Nat) (l0 : List (S72)) (r : Bool) (w : World) (hr0 : Kd.C k72 w A0 l0.length l0) (hc0 : l0.length ≤ c0) (h : rollcallref05_May.f k l0 = some r) :
  Calls Try.prog 27 #[.slice A0 l0.length c0] w fun e w' => e = .returned (.bool r) ∧ Below w.heap.size w w' := by
 unfold rollcallref05_May.f at h
 have HR := Aside0.mk hr0
 clear hr0 hc0
 by_cases c : (l0.length : Int) > 32
 ·rw [if_pos c] at h
  obtain rfl := Option.some.inj h
  clear h
  go_enter Try.func27, Try.ntmps27
  have c' : (32 : Int) < (l0.length : Int) := c
  go_wp2
  go_ret
  exact ⟨rfl, Below.refl _ _⟩
 rw [if_neg c] at h
 have HH := Aside0.mk h
 have c' : (l0.length : Int) ≤ 32 := by omega
 clear h c
 go_enter Try.func27, Try.ntmps27
 have HB := Aside0.mk (Below.refl w.heap.size w)
 go_wp2
 go_loopg [3] k (fun g x wr => ∃ i : Nat, x = .int .i64 i ∧ i ≤ l0.length ∧ Aside0 (rollcallref05_May.l0 g l0 (i : Int) = some r) ∧ Aside0 (Below w.heap.size w wr))
 case atStart => exact ⟨0, rfl, Nat.zero_le _, HH, HB⟩
 case round =>
  obtain ⟨i, rfl, hi, hh, hb⟩ := hrel
  clear HH HB
  obtain ⟨g, rfl⟩ : ∃ g, gk = g + 1 := by
   cases gk with
   | zero => exact absurd hh.out (by simp [rollcallref05_May.l0])
   | succ g => exact ⟨g, rfl⟩
  have h := hh.out
  clear hh
  rw [rollcallref05_May.l0] at h
  by_cases hlt : (i : Int) < (l0.length : Int)
  ·rw [if_pos hlt, if_pos (by omega)] at h
   have hC := Kd.C_below HR.out hb.out
   obtain ⟨ad, he, h0, h1, h2, h3, h4⟩ := at_T72 hC (i : Int) (by omega) (by omega)
   subst he
   rw [Int.toNat_natCast] at h0 h1 h2 h3 h4
   have h0i : (0 : Int) ≤ (i : Int) := by omega
   generalize rd_T72 l0 (i : Int) = x at h h0 h1 h2 h3 h4
   rcases hI : rollcallref03_Is.f g x.f0 with _ | b1
   ·rw [hI] at h; exact absurd h (by simp)
   rw [hI] at h
   simp only [Option.bind_some] at h
   have d1 := fun u : Kin wr => rollcallref03_Is.calls g x.f0 b1 u.at' hI
   have y0 : ∀ u : Kin wr, u.at'.cell? _ = _ := Kin.cell h0
   have y1 : ∀ u : Kin wr, u.at'.cell? _ = _ := Kin.cell h1
   have y2 : ∀ u : Kin wr, u.at'.cell? _ = _ := Kin.cell h2
   have y3 : ∀ u : Kin wr, u.at'.cell? _ = _ := Kin.cell h3
   have y4 : ∀ u : Kin wr, u.at'.cell? _ = _ := Kin.cell h4
   clear hI
   cases b1 with
   | false =>
    rw [if_neg (by simp)] at h
    obtain rfl := Option.some.inj h
    go_wp2_with fail
    refine region_kin (by kernel_rfl) (by kernel_rfl) ?_
    repeat (go_big_quiet_step ((first | (go_at_call 56; first | exact Kin.call (d1 _) | exact Kin.same (d1 _) | exact Kin.call ((d1 _).mono fun _ _ q => ⟨q.1, q.2.below⟩)))))
    refine wpQuiet_nil ?_
    rintro w6 ⟨⟨_, b6⟩, rfl⟩
    have HX := Aside0.mk (below_step hb.out b6)
    clear hC h0 h1 h2 h3 h4 y0 y1 y2 y3 y4 d1 hb b6
    go_wp2
    go_ret
    exact ⟨rfl, HX.out⟩
   | true =>
    rw [if_pos rfl] at h
    rcases hJ : rollcallref04_May.f g x.f1.f0 x.f1.f1 x.f1.f2 x.f1.f3 with _ | b2
    ·rw [hJ] at h; exact absurd h (by simp)
    rw [hJ] at h
    simp only [Option.bind_some] at h
    have d2 := fun u : Kin wr => rollcallref04_May.calls g x.f1.f0 x.f1.f1 x.f1.f2 x.f1.f3 b2 u.at' hJ
    clear hJ
    cases b2 with
    | false =>
     rw [if_neg (by simp)] at h
     obtain rfl := Option.some.inj h
     go_wp2_with fail
     refine region_kin (by kernel_rfl) (by kernel_rfl) ?_
     repeat (go_big_quiet_step ((first | (go_at_call 56; first | exact Kin.call (d1 _) | exact Kin.same (d1 _) | exact Kin.call ((d1 _).mono fun _ _ q => ⟨q.1, q.2.below⟩)) | (go_at_call 57; first | exact Kin.call (d2 _) | exact Kin.same (d2 _) | exact Kin.call ((d2 _).mono fun _ _ q => ⟨q.1, q.2.below⟩)))))
     refine wpQuiet_nil ?_
     rintro w6 ⟨⟨_, b6⟩, rfl⟩
     have HX := Aside0.mk (below_step hb.out b6)
     clear hC h0 h1 h2 h3 h4 y0 y1 y2 y3 y4 d1 hb b6
     go_wp2
     go_ret
     exact ⟨rfl, HX.out⟩
    | true =>
     rw [if_pos rfl] at h
     by_cases hp : (i : Int) > 0
     rotate_left
     ·rw [if_neg hp] at h
      have hp' : ¬ (0 : Int) < (i : Int) := hp
      have hpd : decide ((0 : Int) < (i : Int)) = false := decide_eq_false hp'
      have hpn : decide (0 < i) = false := decide_eq_false (by omega)
      clear hp
      go_wp2_with fail
      refine region_kin (by kernel_rfl) (by kernel_rfl) ?_
      repeat (go_big_quiet_step ((first | (go_at_call 56; first | exact Kin.call (d1 _) | exact Kin.same (d1 _) | exact Kin.call ((d1 _).mono fun _ _ q => ⟨q.1, q.2.below⟩)) | (go_at_call 57; first | exact Kin.call (d2 _) | exact Kin.same (d2 _) | exact Kin.call ((d2 _).mono fun _ _ q => ⟨q.1, q.2.below⟩)))))
      refine wpQuiet_nil ?_
      rintro w6 ⟨⟨_, b6⟩, rfl⟩
      have HX := Aside0.mk (below_step hb.out b6)
      rw [show wrap64 ((i : Int) + 1) = ((i + 1 : Nat) : Int) by unfold wrap64; omega] at h
      have HN := Aside0.mk h
      have hw : IntKind.i64.wrap ((i : Int) + 1) = (i : Int) + 1 := by rw [IntKind.wrap_i64]; omega
      clear hC h0 h1 h2 h3 h4 y0 y1 y2 y3 y4 d1 hb b6 h
      go_wp2
      go_roundg g
      case measure => omega
      case rel => exact ⟨i + 1, by first | rfl | (congr 1), by omega, HN, HX⟩
     ·rw [if_pos hp] at h
      have hw1 : wrap64 ((i : Int) - 1) = ((i - 1 : Nat) : Int) := by unfold wrap64; omega
      have hw2 : IntKind.i64.wrap ((i : Int) - 1) = ((i - 1 : Nat) : Int) := by rw [IntKind.wrap_i64]; omega
      rw [hw1, if_pos (by omega), if_pos (by omega)] at h
      obtain ⟨ad2, he2, j0, _⟩ := at_T72 hC ((i - 1 : Nat) : Int) (by omega) (by omega)
      obtain rfl : ad = ad2 := by injection he2
      rw [Int.toNat_natCast] at j0
      have hp' : (0 : Int) < (i : Int) := hp
      have hpd : decide ((0 : Int) < (i : Int)) = true := decide_eq_true hp'
      have hpn : decide (0 < i) = true := decide_eq_true (by omega)
      have hq0 : (0 : Int) ≤ ((i - 1 : Nat) : Int) := by omega
      have hq1 : ((i - 1 : Nat) : Int) < (l0.length : Int) := by omega
      generalize rd_T72 l0 ((i - 1 : Nat) : Int) = y at h j0
      rcases hK : rollcallref03_Less.f y.f0 x.f0 with _ | b3
      ·rw [hK] at h; exact absurd h (by simp)
      rw [hK] at h
      simp only [Option.bind_some] at h
      have d3 := fun u : Kin wr => rollcallref03_Less.calls y.f0 x.f0 b3 u.at' hK
      have y5 : ∀ u : Kin wr, u.at'.cell? _ = _ := Kin.cell j0
      clear hK hp hw1 he2
      cases b3 with
      | false =>
       rw [if_neg (by simp)] at h
       obtain rfl := Option.some.inj h
       go_wp2_with fail
       refine region_kin (by kernel_rfl) (by kernel_rfl) ?_
       repeat (go_big_quiet_step ((first | (go_at_call 56; first | exact Kin.call (d1 _) | exact Kin.same (d1 _) | exact Kin.call ((d1 _).mono fun _ _ q => ⟨q.1, q.2.below⟩)) | (go_at_call 57; first | exact Kin.call (d2 _) | exact Kin.same (d2 _) | exact Kin.call ((d2 _).mono fun _ _ q => ⟨q.1, q.2.below⟩)) | (go_at_call 58; first | exact Kin.call (d3 _) | exact Kin.same (d3 _) | exact Kin.call ((d3 _).mono fun _ _ q => ⟨q.1, q.2.below⟩)))))
       refine wpQuiet_nil ?_
       rintro w6 ⟨⟨_, b6⟩, rfl⟩
       have HX := Aside0.mk (below_step hb.out b6)
       clear hC h0 h1 h2 h3 h4 y0 y1 y2 y3 y4 d1 hb b6
       go_wp2
       go_ret
       exact ⟨rfl, HX.out⟩
      | true =>
       rw [if_pos rfl] at h
       go_wp2_with fail
       refine region_kin (by kernel_rfl) (by kernel_rfl) ?_
       repeat (go_big_quiet_step ((first | (go_at_call 56; first | exact Kin.call (d1 _) | exact Kin.same (d1 _) | exact Kin.call ((d1 _).mono fun _ _ q => ⟨q.1, q.2.below⟩)) | (go_at_call 57; first | exact Kin.call (d2 _) | exact Kin.same (d2 _) | exact Kin.call ((d2 _).mono fun _ _ q => ⟨q.1, q.2.below⟩)) | (go_at_call 58; first | exact Kin.call (d3 _) | exact Kin.same (d3 _) | exact Kin.call ((d3 _).mono fun _ _ q => ⟨q.1, q.2.below⟩)))))
       refine wpQuiet_nil ?_
       rintro w6 ⟨⟨_, b6⟩, rfl⟩
       have HX := Aside0.mk (below_step hb.out b6)
       rw [show wrap64 ((i : Int) + 1) = ((i + 1 : Nat) : Int) by unfold wrap64; omega] at h
       have HN := Aside0.mk h
       have hw : IntKind.i64.wrap ((i : Int) + 1) = (i : Int) + 1 := by rw [IntKind.wrap_i64]; omega
       clear hC h0 h1 h2 h3 h4 y0 y1 y2 y3 y4 d1 hb b6 h
       go_wp2
       go_roundg g
       case measure => omega
       case rel => exact ⟨i + 1, by first | rfl | (congr 1), by omega, HN, HX⟩
  ·rw [if_neg hlt] at h
   obtain rfl := Option.some.inj h
   have hlt' : (l0.length : Int) ≤ (i : Int) := by omega
   have hnd : decide ((i : Int) < (l0.length : Int)) = false := decide_eq_false hlt
   clear h hlt
   go_wp2
   go_ret
   exact ⟨rfl, hb.out⟩
end Go.Proofs.Ytmigglldahkngaa.PA
end

section
/- Tables in order: what is set for unlike contacts may be set in either order; what is set anew for one contact stands alone. -/
namespace Go.Proofs.Ytmigglldahkngaa.XV17
open Go.RowKit Go.Proofs.Ytmigglldahkngaa.PA Go.Proofs.YtmigglldahkngaaW.PrintWords Go.Proofs.YtmigglldahkngaaW.PrintLast Go.Proofs.Ytmigglldahkngaa.XGen
open Go.Proofs.Ytmigglldahkngaa.XPlace (idx is)
open Go.Proofs.Ytmigglldahkngaa.XSet (atL)
open Go.Proofs.Ytmigglldahkngaa.XIns (insL)
open Go.Proofs.Ytmigglldahkngaa.XLess (lessB)
set_option linter.unusedVariables false
set_option linter.unusedSimpArgs false
theorem wrap_pred (j : Nat) (h : 0 < j) (h2 : j < 1000000000) : wrap64 ((j : Int) - 1) = ((j - 1 : Nat) : Int) := by
 rw [show ((j : Int) - 1) = ((j - 1 : Nat) : Int) by omega]
 unfold wrap64; omega
theorem bl_irr : ∀ a : List UInt8, Op.bytesLess a a = false
 | [] => rfl
 | x :: a => by rw [Op.bytesLess]; simp [bl_irr a]
theorem bl_trans : ∀ a b c : List UInt8, Op.bytesLess a b = true → Op.bytesLess b c = true → Op.bytesLess a c = true
 | [], [], _, h, _ => by simp [Op.bytesLess] at h
 | _ :: _, [], _, h, _ => by simp [Op.bytesLess] at h
 | [], _ :: _, [], _, h => by simp [Op.bytesLess] at h
 | _ :: _, _ :: _, [], _, h => by simp [Op.bytesLess] at h
 | [], _ :: _, _ :: _, _, _ => by simp [Op.bytesLess]
 | x :: a, y :: b, z :: c, h, g => by
  rw [Op.bytesLess] at h g ⊢
  simp only [Bool.or_eq_true, Bool.and_eq_true, decide_eq_true_eq, beq_iff_eq] at h g ⊢
  have ih := bl_trans a b c
  rcases h with h | ⟨h, h'⟩ <;> rcases g with g | ⟨g, g'⟩
  ·exact Or.inl (UInt8.lt_trans h g)
  ·subst g; exact Or.inl h
  ·subst h; exact Or.inl g
  ·subst h; subst g; exact Or.inr ⟨rfl, ih h' g'⟩
theorem less_iff (a b : ByteArray) : lessB a b = true ↔ a.size < b.size ∨ (a.size = b.size ∧ Op.bytesLess a.data.toList b.data.toList = true) := by
 unfold lessB XLess.ordI XLess.orI XLess.cmpI XLess.byBytes
 rw [less_bytes]
 by_cases c : (a.size : Int) < (b.size : Int)
 ·rw [if_pos c]; simp; omega
 ·rw [if_neg c]
  by_cases d : (a.size : Int) = (b.size : Int)
  ·rw [if_neg (by omega)]; simp; omega
  ·rw [if_pos (by omega)]; simp; omega
theorem lessB_trans {a b c : ByteArray} (h : lessB a b = true) (g : lessB b c = true) : lessB a c = true := by
 rw [less_iff] at *
 rcases h with h | ⟨h, h'⟩ <;> rcases g with g | ⟨g, g'⟩
 ·exact Or.inl (by omega)
 ·exact Or.inl (by omega)
 ·exact Or.inl (by omega)
 ·exact Or.inr ⟨by omega, bl_trans _ _ _ h' g'⟩
def Srt (t : List Se) : Prop := t.Pairwise fun x y => lessB x.f0 y.f0 = true
theorem isT_iff (n : ByteArray) (x : Se) : XDel.is n x = true ↔ x.f0 = n := by simp [XDel.is, toList_inj]
def rowC (c : Ch) : Se := ⟨c.f0, ⟨c.f2.f0, c.f2.f1, c.f2.f2, c.f2.f3⟩⟩
theorem srt_of (t : List Se) (h : ∀ (i : Nat) (hi : i < t.length), 0 < i → lessB (t[i - 1]'(by omega)).f0 t[i].f0 = true) : Srt t := by
 refine List.pairwise_iff_getElem.2 fun i j hi hj hij => ?_
 induction j with
 | zero => omega
 | succ j ih =>
  have h1 := h (j + 1) hj (by omega)
  by_cases e : i = j
  ·subst e; exact h1
  ·exact lessB_trans (ih (by omega) (by omega)) h1
end Go.Proofs.Ytmigglldahkngaa.XV17
end

section
/- Two changes pushed in either order, in plain lists. -/
namespace Go.Proofs.Ytmigglldahkngaa.XV17
open Go.RowKit Go.Proofs.Ytmigglldahkngaa.PA Go.Proofs.YtmigglldahkngaaW.PrintWords Go.Proofs.YtmigglldahkngaaW.PrintLast Go.Proofs.Ytmigglldahkngaa.XGen
open Go.Proofs.Ytmigglldahkngaa.XPlace (idx is)
set_option linter.unusedVariables false
set_option linter.unusedSimpArgs false
theorem is_own (x : Ch) : is x.f0 x = true := is_iff.2 rfl
theorem PU_lat (l : List Ch) (c : Ch) (room : Int) : PU l true c room = (l, true) := by unfold PU; rw [if_pos rfl]
end Go.Proofs.Ytmigglldahkngaa.XV17
end

section
/- law17's QueueLast in plain lists: what was told, with what waits over it, is what all changes make. -/
namespace Go.Proofs.Ytmigglldahkngaa.XV17
open Go.RowKit Go.Proofs.Ytmigglldahkngaa.PA Go.Proofs.YtmigglldahkngaaW.PrintWords Go.Proofs.YtmigglldahkngaaW.PrintLast Go.Proofs.Ytmigglldahkngaa.XGen
open Go.Proofs.Ytmigglldahkngaa.XPlace (idx is)
open Go.Proofs.Ytmigglldahkngaa.XIdent (isB okAt)
set_option linter.unusedVariables false
set_option linter.unusedSimpArgs false
end Go.Proofs.Ytmigglldahkngaa.XV17
end

section
-- Written by a program of this session (wip/tools/xprint.py), which drives the kit's print.
namespace Go.Proofs.Ytmigglldahkngaa.PA
open Go.RowKit Go.Proofs.YtmigglldahkngaaW.PrintWords Go.Proofs.YtmigglldahkngaaW.PrintLast Go.Proofs.YtmigglldahkngaaW.PrintMore
attribute [local go_sem] max2_int min2_int max_two min_two   -- for this text's walks alone
set_option linter.unusedVariables false
set_option linter.unusedSimpArgs false

/-- A shared row that holds an element lies in a block of which its own account speaks. -/
theorem Kd.V_apart {α : Type} {d : Kd α} {e : Nat} {W : World} {base : Nat} {ok : Nat → Prop} {ad : Addr} {n c : Nat} {xs : List α} {g : Nat} (h : Kd.V d e W base ok (.slice (some ad) n c) xs) (hs : 0 < d.sz) (hp : 0 < xs.length) (hne : ∀ k, ok k → k ≠ g) : ad.block ≠ g := by
 have hn := (Kd.V_at h).1
 obtain ⟨ad', cs, he, _, _, _, hk⟩ := Kd.F_get (Kd.V_F h) (xs.get ⟨0, hp⟩) 0 (by omega) (by omega)
 injection he with he
 subst he
 exact hne _ (hk hs)
/-! ### rollcallref17_Pop: function 54 -/
def rollcallref17_Pop.f (l0_0 : List (S34)) (a0_1 : Bool) : Option (ByteArray × Bool × Int × Int × Int × ByteArray × (List (S34)) × Bool × Bool) := if (l0_0.length : Int) = 0 then (some ((⟨#[]⟩ : ByteArray), false, 0, 0, 0, (⟨#[]⟩ : ByteArray), l0_0, a0_1, false)) else (if 0 < (l0_0.length : Int) then (if 1 ≤ (l0_0.length : Int) then (some ((rd_T34 l0_0 0).f0, (rd_T34 l0_0 0).f1, (rd_T34 l0_0 0).f2.f0, (rd_T34 l0_0 0).f2.f1, (rd_T34 l0_0 0).f2.f2, (rd_T34 l0_0 0).f2.f3, (l0_0.drop 1), a0_1, true)) else (none)) else (none))
def rollcallref17_Pop.T3 : Bool × List (List Nat × List Nat) := (true, [([], []), ([0], [0]), ([1], [1]), ([2], [2]), ([], []), ([4], [4]), ([5], [5]), ([], []), ([7], [7]), ([6, 8], [6, 8]), ([3, 0, 1, 2, 3], [3]), ([9, 10, 0, 1, 2, 3, 4, 5, 6, 7, 8, 9, 10], [9]), ([11, 0, 1, 2, 3, 4, 5, 6, 7, 8, 9, 10, 11], [])])
def rollcallref17_Pop.B3 : List Nat := [0, 1, 3, 7, 0, 16, 48, 0, 128, 496, 15, 2047, 4095]
theorem rollcallref17_Pop.tab3 : rtab .any (opsOf Try.f54 3) = rollcallref17_Pop.T3 := by kernel_rfl
theorem rollcallref17_Pop.bits3 : waitsOk rollcallref17_Pop.T3.2 rollcallref17_Pop.B3 = true := by kernel_rfl
set_option maxHeartbeats 8000000 in
set_option maxRecDepth 100000 in
theorem rollcallref17_Pop.calls (P0_0_ : Nat → Prop) (A0_0 : Option Addr) (c0_0 : Nat) (l0_0 : List (S34)) (a0_1 : Bool) (r1 : ByteArray) (r2 : Bool) (r3 : Int) (r4 : Int) (r5 : Int) (r6 : ByteArray) (r7 : List (S34)) (r8 : Bool) (r9 : Bool) (w : World) (hs0_0 : Kd.V k34 34 w w.heap.size (fun k_ => P0_0_ k_) (.slice A0_0 l0_0.length c0_0) l0_0) (h : rollcallref17_Pop.f l0_0 a0_1 = some (r1, r2, r3, r4, r5, r6, r7, r8, r9)) :
  Calls Try.prog 54 #[.agg #[.slice A0_0 l0_0.length c0_0, .bool a0_1]] w fun e w' => ∃ v6_ : Value, e = .returned (.tuple #[.agg #[.string r1, .bool r2, .int .i64 r3, .int .i64 r4, .int .i64 r5, .string r6], .agg #[v6_, .bool r8], .bool r9]) ∧ Kd.V k34 34 w' w.heap.size (fun k_ => (P0_0_ k_ ∨ w.heap.size ≤ k_)) v6_ r7 ∧ Below w.heap.size w w' := by
 have hu26 := Try.underlying26
 have hu34 := Try.underlying34
 have HO0_0 := Aside0.mk (show Kd.V k34 34 w w.heap.size (fun k_ => (P0_0_ k_ ∨ w.heap.size ≤ k_)) (.slice A0_0 l0_0.length c0_0) l0_0 from Kd.V_mono hs0_0 (fun k_ hk => .inl hk))
 have HB := Aside0.mk (Below.refl w.heap.size w)
 have H : (if (l0_0.length : Int) = 0 then (some ((⟨#[]⟩ : ByteArray), false, 0, 0, 0, (⟨#[]⟩ : ByteArray), l0_0, a0_1, false)) else (if 0 < (l0_0.length : Int) then (if 1 ≤ (l0_0.length : Int) then (some ((rd_T34 l0_0 0).f0, (rd_T34 l0_0 0).f1, (rd_T34 l0_0 0).f2.f0, (rd_T34 l0_0 0).f2.f1, (rd_T34 l0_0 0).f2.f2, (rd_T34 l0_0 0).f2.f3, (l0_0.drop 1), a0_1, true)) else (none)) else (none))) = some (r1, r2, r3, r4, r5, r6, r7, r8, r9) := h
 clear h
 by_cases c2 : (l0_0.length : Int) = 0
 ·rw [if_pos c2] at H
  have c2b0 : ((l0_0.length : Int) == 0) = true := beq_iff_eq.mpr c2
  have c2b1 : ((l0_0.length : Int) != 0) = false := bne_eq_false_iff_eq.mpr c2
  clear c2
  simp only [Option.some.injEq, Prod.mk.injEq] at H
  obtain ⟨rfl, rfl, rfl, rfl, rfl, rfl, rfl, rfl, rfl⟩ := H
  go_enter Try.func54, Try.ntmps54
  try go_wp2_with (first | ((with_reducible refine gate_dst (N := 1) rfl ?_); refine box_event ?hg (N := 1) ?hd (cs := #[.slice A0_0 l0_0.length c0_0, .bool a0_1]) (t := 26) ?hr ?_; (case hd => rfl); (case hg => rfl); (case hr => first | (go_simp; done) | (go_simp; rfl)); intro gb357 hg w3 hbox hb; replace HO0_0 := Aside0.mk (Kd.V_below (Kd.V_elderB (vS HO0_0.out) gb357 (Nat.le_of_eq hg.symm)) hb); have BK357 := Aside0.mk (hbox); have GW357 := Aside0.mk ((by rw [hg]; exact (below_size (hS HB.out)) : w.heap.size ≤ gb357)); have GE357 := Aside0.mk ((by rw [hg]; exact (below_size (hS HB.out)) : w.heap.size ≤ gb357)); replace HB := Aside0.mk (below_step (hS HB.out) hb); clear hb hbox hg) | ((with_reducible refine gate_dst (N := 2) rfl ?_); refine box_event ?hg (N := 2) ?hd (cs := #[.string (⟨#[]⟩ : ByteArray), .bool false, .int .i64 0, .int .i64 0, .int .i64 0, .string (⟨#[]⟩ : ByteArray)]) (t := 34) ?hr ?_; (case hd => rfl); (case hg => rfl); (case hr => first | (go_simp; done) | (go_simp; rfl)); intro gb358 hg w4 hbox hb; replace HO0_0 := Aside0.mk (Kd.V_below (Kd.V_elderB (vS HO0_0.out) gb358 (Nat.le_of_eq hg.symm)) hb); have BK358 := Aside0.mk (hbox); have GW358 := Aside0.mk ((by rw [hg]; exact (below_size (hS HB.out)) : w.heap.size ≤ gb358)); have GE358 := Aside0.mk ((by rw [hg]; exact (below_size (hS HB.out)) : w.heap.size ≤ gb358)); replace HB := Aside0.mk (below_step (hS HB.out) hb); have NB357_358 := Aside0.mk ((by rw [hg]; exact Nat.ne_of_lt (blk_lt (bS BK357.out)) : gb357 ≠ gb358)); have NB358_357 := Aside0.mk ((by rw [hg]; exact Nat.ne_of_gt (blk_lt (bS BK357.out)) : gb358 ≠ gb357)); replace BK357 := Aside0.mk (blk_below (bS BK357.out) hb); clear hb hbox hg) | ((with_reducible refine gate_dst (N := 3) rfl ?_); refine box_event ?hg (N := 3) ?hd (cs := #[.slice none 0 0, .bool false]) (t := 26) ?hr ?_; (case hd => rfl); (case hg => rfl); (case hr => first | (go_simp; done) | (go_simp; rfl)); intro gb359 hg w5 hbox hb; replace HO0_0 := Aside0.mk (Kd.V_below (Kd.V_elderB (vS HO0_0.out) gb359 (Nat.le_of_eq hg.symm)) hb); have BK359 := Aside0.mk (hbox); have GW359 := Aside0.mk ((by rw [hg]; exact (below_size (hS HB.out)) : w.heap.size ≤ gb359)); have GE359 := Aside0.mk ((by rw [hg]; exact (below_size (hS HB.out)) : w.heap.size ≤ gb359)); replace HB := Aside0.mk (below_step (hS HB.out) hb); have NB357_359 := Aside0.mk ((by rw [hg]; exact Nat.ne_of_lt (blk_lt (bS BK357.out)) : gb357 ≠ gb359)); have NB359_357 := Aside0.mk ((by rw [hg]; exact Nat.ne_of_gt (blk_lt (bS BK357.out)) : gb359 ≠ gb357)); replace BK357 := Aside0.mk (blk_below (bS BK357.out) hb); have NB358_359 := Aside0.mk ((by rw [hg]; exact Nat.ne_of_lt (blk_lt (bS BK358.out)) : gb358 ≠ gb359)); have NB359_358 := Aside0.mk ((by rw [hg]; exact Nat.ne_of_gt (blk_lt (bS BK358.out)) : gb359 ≠ gb358)); replace BK358 := Aside0.mk (blk_below (bS BK358.out) hb); clear hb hbox hg; have hnb6 := NB357_358.out; have hnc6 := NB358_357.out; have hnb7 := NB357_359.out; have hnc7 := NB359_357.out; have hcz8_0 : w5.cell? ⟨gb357, 0, none⟩ = some (.slice A0_0 l0_0.length c0_0) := (blk_cell BK357.out 0).trans rfl; have hcz8_1 : w5.cell? ⟨gb357, 1, none⟩ = some (.bool a0_1) := (blk_cell BK357.out 1).trans rfl; have hfz8_0 := blk_frozen BK357.out 0; have hfz8_1 := blk_frozen BK357.out 1))
  replace HO0_0 := Aside0.mk (Kd.V_drew HO0_0.out)
  replace BK357 := Aside0.mk (blk_drew BK357.out)
  replace BK358 := Aside0.mk (blk_drew BK358.out)
  replace BK359 := Aside0.mk (blk_drew BK359.out)
  replace HB := Aside0.mk (below_drew1 HB.out)
  refine start_ (n := 5) (S := fun w' => w'.cell? ⟨gb357, 0, none⟩ = some (.slice A0_0 l0_0.length c0_0) ∧ w'.cell? ⟨gb357, 1, none⟩ = some (.bool a0_1)) (ds := []) #[false, false, false, false, false] (by kernel_rfl) rfl rfl ⟨(blk_cell BK357.out 0).trans rfl, (blk_cell BK357.out 1).trans rfl⟩ (fun hHeld => ?_)
  generalize w5.drew = w9 at HO0_0 BK357 BK358 BK359 HB hHeld ⊢
  refine pure_ (i := 0) (N := some 9) (v := ?_) (a' := ?_) #[true, false, false, false, false] rfl rfl (by kernel_rfl) (fun _ _ _ h => h) (Or.inl ⟨by rfl, ?_⟩) ?_ ?_
  rotate_left
  ·intro w'
   go_simp
   with_reducible rfl
  rotate_left
  ·simp only [Act.put, List.setIfInBounds_toArray, List.set_cons_zero, List.set_cons_succ, i64_w, i32_w]
   rfl
  refine take_ (i := 1) (N := some 10) (v := ?_) (a' := ?_) #[true, true, false, false, false] rfl rfl (by kernel_rfl) (fun _ _ _ h => h) (Or.inl ⟨by rfl, ?_⟩) hHeld ?_ ?_
  rotate_left
  ·rintro w' ⟨s0, s1⟩
   go_simp
   with_reducible rfl
  rotate_left
  ·simp only [Act.put, List.setIfInBounds_toArray, List.set_cons_zero, List.set_cons_succ, i64_w, i32_w]
   rfl
  refine one_ (i := 2) (N := none) #[true, true, true, false, false] rfl rfl (by kernel_rfl) (by decide) (fun K hK => ?_)
  have hs10 : w9.cell? ⟨gb358, 0, none⟩ = some (.string (⟨#[]⟩ : ByteArray)) := (blk_cell BK358.out 0).trans rfl
  have hfs10 := blk_frozen BK358.out 0
  have hns10_0 := NB357_358.out
  have hns10_2 := NB359_358.out
  have hms10_0 := NB358_357.out
  have hms10_2 := NB358_359.out
  have hs11 : w9.cell? ⟨gb358, 1, none⟩ = some (.bool false) := (blk_cell BK358.out 1).trans rfl
  have hfs11 := blk_frozen BK358.out 1
  have hns11_0 := NB357_358.out
  have hns11_2 := NB359_358.out
  have hms11_0 := NB358_357.out
  have hms11_2 := NB358_359.out
  have hs12 : w9.cell? ⟨gb358, 2, none⟩ = some (.int .i64 0) := (blk_cell BK358.out 2).trans rfl
  have hfs12 := blk_frozen BK358.out 2
  have hns12_0 := NB357_358.out
  have hns12_2 := NB359_358.out
  have hms12_0 := NB358_357.out
  have hms12_2 := NB358_359.out
  have hs13 : w9.cell? ⟨gb358, 3, none⟩ = some (.int .i64 0) := (blk_cell BK358.out 3).trans rfl
  have hfs13 := blk_frozen BK358.out 3
  have hns13_0 := NB357_358.out
  have hns13_2 := NB359_358.out
  have hms13_0 := NB358_357.out
  have hms13_2 := NB358_359.out
  have hs14 : w9.cell? ⟨gb358, 4, none⟩ = some (.int .i64 0) := (blk_cell BK358.out 4).trans rfl
  have hfs14 := blk_frozen BK358.out 4
  have hns14_0 := NB357_358.out
  have hns14_2 := NB359_358.out
  have hms14_0 := NB358_357.out
  have hms14_2 := NB358_359.out
  have hs15 : w9.cell? ⟨gb358, 5, none⟩ = some (.string (⟨#[]⟩ : ByteArray)) := (blk_cell BK358.out 5).trans rfl
  have hfs15 := blk_frozen BK358.out 5
  have hns15_0 := NB357_358.out
  have hns15_2 := NB359_358.out
  have hms15_0 := NB358_357.out
  have hms15_2 := NB358_359.out
  refine skip_ (w1 := ?_) (by rfl) rfl ?_ ?_
  rotate_left
  ·go_simp
   rfl
  refine hK.out _ _ ⟨((cell_far (p := ⟨gb358, _, none⟩) NB357_358.out _).trans (((cell_far (p := ⟨gb358, _, none⟩) NB357_358.out _).trans (((cell_far (p := ⟨gb358, _, none⟩) NB357_358.out _).trans (((cell_far (p := ⟨gb358, _, none⟩) NB357_358.out _).trans (((cell_far (p := ⟨gb358, _, none⟩) NB357_358.out _).trans (((cell_far (p := ⟨gb358, _, none⟩) NB357_358.out _).trans (hHeld.1)))))))))))), ((cell_far (p := ⟨gb358, _, none⟩) NB357_358.out _).trans (((cell_far (p := ⟨gb358, _, none⟩) NB357_358.out _).trans (((cell_far (p := ⟨gb358, _, none⟩) NB357_358.out _).trans (((cell_far (p := ⟨gb358, _, none⟩) NB357_358.out _).trans (((cell_far (p := ⟨gb358, _, none⟩) NB357_358.out _).trans (((cell_far (p := ⟨gb358, _, none⟩) NB357_358.out _).trans (hHeld.2))))))))))))⟩ (fun hHeld => ?_)
  clear hK K
  clear hs10 hfs10 hns10_0 hns10_2 hms10_0 hms10_2 hs11 hfs11 hns11_0 hns11_2 hms11_0 hms11_2 hs12 hfs12 hns12_0 hns12_2 hms12_0 hms12_2 hs13 hfs13 hns13_0 hns13_2 hms13_0 hms13_2 hs14 hfs14 hns14_0 hns14_2 hms14_0 hms14_2 hs15 hfs15 hns15_0 hns15_2 hms15_0 hms15_2
  generalize hq_ : ((((((w9.setCell ⟨gb358, 0, none⟩ (.string (⟨#[]⟩ : ByteArray))).setCell ⟨gb358, 1, none⟩ (.bool false)).setCell ⟨gb358, 2, none⟩ (.int .i64 0)).setCell ⟨gb358, 3, none⟩ (.int .i64 0)).setCell ⟨gb358, 4, none⟩ (.int .i64 0)).setCell ⟨gb358, 5, none⟩ (.string (⟨#[]⟩ : ByteArray))) = w9_c at hHeld ⊢
  have z_ := @id (((((((w9.setCell ⟨gb358, 0, none⟩ (.string (⟨#[]⟩ : ByteArray))).setCell ⟨gb358, 1, none⟩ (.bool false)).setCell ⟨gb358, 2, none⟩ (.int .i64 0)).setCell ⟨gb358, 3, none⟩ (.int .i64 0)).setCell ⟨gb358, 4, none⟩ (.int .i64 0)).setCell ⟨gb358, 5, none⟩ (.string (⟨#[]⟩ : ByteArray))).heap[gb358]? = some _) (bS (blk_put (bS (blk_put (bS (blk_put (bS (blk_put (bS (blk_put (bS (blk_put (bS BK358.out) 0 _ rfl)) 1 _ rfl)) 2 _ rfl)) 3 _ rfl)) 4 _ rfl)) 5 _ rfl)); rw [hq_] at z_; replace BK358 := Aside0.mk z_; clear z_
  have z_ := @id (((((((w9.setCell ⟨gb358, 0, none⟩ (.string (⟨#[]⟩ : ByteArray))).setCell ⟨gb358, 1, none⟩ (.bool false)).setCell ⟨gb358, 2, none⟩ (.int .i64 0)).setCell ⟨gb358, 3, none⟩ (.int .i64 0)).setCell ⟨gb358, 4, none⟩ (.int .i64 0)).setCell ⟨gb358, 5, none⟩ (.string (⟨#[]⟩ : ByteArray))).heap[gb359]? = some _) (bF BK359.out NB359_358.out); rw [hq_] at z_; replace BK359 := Aside0.mk z_; clear z_
  have z_ := @id (Kd.V _ _ ((((((w9.setCell ⟨gb358, 0, none⟩ (.string (⟨#[]⟩ : ByteArray))).setCell ⟨gb358, 1, none⟩ (.bool false)).setCell ⟨gb358, 2, none⟩ (.int .i64 0)).setCell ⟨gb358, 3, none⟩ (.int .i64 0)).setCell ⟨gb358, 4, none⟩ (.int .i64 0)).setCell ⟨gb358, 5, none⟩ (.string (⟨#[]⟩ : ByteArray))) _ _ _ _) (vF (b := gb358) (Kd.V_mono HO0_0.out (fun k_ hk => (⟨hk, hk.1.2⟩ : _ ∧ k_ ≠ gb358))) (fun _ hk => hk.2)); rw [hq_] at z_; replace HO0_0 := Aside0.mk z_; clear z_
  replace HB : Aside0 (Below w.heap.size w w9_c) := ⟨by rw [← hq_]; exact (by repeat (first | (with_reducible first | exact HB.out | apply below_alloc | apply pw_below_drewN | apply below_drew1 | refine below_set ?_ GE357.out | refine below_set ?_ GE358.out | refine below_set ?_ GE359.out) | exact HB.out))⟩
  clear hq_
  refine one_ (i := 3) (N := none) #[true, true, true, true, false] rfl rfl (by kernel_rfl) (by decide) (fun K hK => ?_)
  have hs16 : w9_c.cell? ⟨gb359, 0, none⟩ = some (.slice none 0 0) := (blk_cell BK359.out 0).trans rfl
  have hfs16 := blk_frozen BK359.out 0
  have hns16_0 := NB357_359.out
  have hns16_1 := NB358_359.out
  have hms16_0 := NB359_357.out
  have hms16_1 := NB359_358.out
  have hs17 : w9_c.cell? ⟨gb359, 1, none⟩ = some (.bool false) := (blk_cell BK359.out 1).trans rfl
  have hfs17 := blk_frozen BK359.out 1
  have hns17_0 := NB357_359.out
  have hns17_1 := NB358_359.out
  have hms17_0 := NB359_357.out
  have hms17_1 := NB359_358.out
  refine skip_ (w1 := ?_) (by rfl) rfl ?_ ?_
  rotate_left
  ·go_simp
   rfl
  refine hK.out _ _ ⟨((cell_far (p := ⟨gb359, _, none⟩) NB357_359.out _).trans (((cell_far (p := ⟨gb359, _, none⟩) NB357_359.out _).trans (hHeld.1)))), ((cell_far (p := ⟨gb359, _, none⟩) NB357_359.out _).trans (((cell_far (p := ⟨gb359, _, none⟩) NB357_359.out _).trans (hHeld.2))))⟩ (fun hHeld => ?_)
  clear hK K
  refine pure_ (i := 4) (N := some 4) (v := ?_) (a' := ?_) #[true, true, true, true, true] rfl rfl (by kernel_rfl) (fun _ _ _ h => h) (Or.inl ⟨by rfl, ?_⟩) ?_ ?_
  rotate_left
  ·intro w'
   go_simp
   with_reducible rfl
  rotate_left
  ·simp only [Act.put, List.setIfInBounds_toArray, List.set_cons_zero, List.set_cons_succ, i64_w, i32_w]
   rfl
  refine done_ (by kernel_rfl) ?_
  try go_wp2
  refine bodyPost_ret (results_list (rs := [.cell 2 34, .cell 3 26, .tmp 4]) rfl (by simp) (.cell gb358 34 #[.string (⟨#[]⟩ : ByteArray), .bool false, .int .i64 0, .int .i64 0, .int .i64 0, .string (⟨#[]⟩ : ByteArray)] (0, 0) _ rfl (bF BK358.out NB358_359.out) Try.underlying34 rfl (by kernel_rfl) (.cell gb359 26 #[.slice A0_0 l0_0.length c0_0, .bool a0_1] (0, 0) _ rfl (bS (blk_put (bS (blk_put BK359.out 0 _ rfl)) 1 _ rfl)) Try.underlying26 rfl (by kernel_rfl) (.tmp .nil)))) rfl ?_
  exact ⟨_, by first | rfl | (simp [errW_none, errW_some] <;> rfl) | (simp [*, errW_none, errW_some] <;> rfl), by (with_reducible repeat (first | apply Kd.V_alloc | apply Kd.V_drewN | apply Kd.V_drew)); exact Kd.V_mono (vF (b := gb359) (Kd.V_mono HO0_0.out (fun k_ hk => (⟨hk, hk.1.2⟩ : _ ∧ k_ ≠ gb359))) (fun _ hk => hk.2)) (fun _ hk => hk.1.1.1.1.1), by repeat (first | (with_reducible first | exact HB.out | apply below_alloc | apply pw_below_drewN | apply below_drew1 | refine below_set ?_ GE357.out | refine below_set ?_ GE358.out | refine below_set ?_ GE359.out) | exact HB.out)⟩
 ·rw [if_neg c2] at H
  have c2b0 : ((l0_0.length : Int) == 0) = false := beq_eq_false_iff_ne.mpr c2
  have c2b1 : ((l0_0.length : Int) != 0) = true := bne_iff_ne.mpr c2
  have c2b2 : ¬ (l0_0 = []) := fun h_ => c2 (by rw [h_]; rfl)
  by_cases c18 : 0 < (l0_0.length : Int)
  ·rw [if_pos c18] at H
   have c18b0 : decide (0 < (l0_0.length : Int)) = true := decide_eq_true c18
   have c18b1 : decide (0 < l0_0.length) = true := decide_eq_true (by omega)
   clear c18
   by_cases c19 : 1 ≤ (l0_0.length : Int)
   ·rw [if_pos c19] at H
    have c19b0 := eq_true c19
    have c19b1 : decide (1 ≤ (l0_0.length : Int)) = true := decide_eq_true c19
    clear c19
    obtain ⟨y361, hy361⟩ : ∃ y_ : List (S34), y_ = (l0_0.drop 1) := ⟨_, rfl⟩
    replace H : (some ((rd_T34 l0_0 0).f0, (rd_T34 l0_0 0).f1, (rd_T34 l0_0 0).f2.f0, (rd_T34 l0_0 0).f2.f1, (rd_T34 l0_0 0).f2.f2, (rd_T34 l0_0 0).f2.f3, y361, a0_1, true)) = some (r1, r2, r3, r4, r5, r6, r7, r8, r9) := by first | (rw [hy361]; with_reducible exact H) | (have H2_ := (Option.bind_some _ _).symm.trans H; rw [hy361]; with_reducible exact H2_) | (have H2_ := (Option.bind_some _ _).symm.trans H; with_reducible exact H2_) | with_reducible exact H | (rw [hy361]; exact H) | exact H
    have Ny361 := Aside0.mk hy361
    clear hy361
    simp only [Option.some.injEq, Prod.mk.injEq] at H
    obtain ⟨rfl, rfl, rfl, rfl, rfl, rfl, rfl, rfl, rfl⟩ := H
    go_enter Try.func54, Try.ntmps54
    try go_wp2_with (first | ((with_reducible refine gate_dst (N := 1) rfl ?_); refine box_event ?hg (N := 1) ?hd (cs := #[.slice A0_0 l0_0.length c0_0, .bool a0_1]) (t := 26) ?hr ?_; (case hd => rfl); (case hg => rfl); (case hr => first | (go_simp; done) | (go_simp; rfl)); intro gb357 hg w20 hbox hb; replace HO0_0 := Aside0.mk (Kd.V_below (Kd.V_elderB (vS HO0_0.out) gb357 (Nat.le_of_eq hg.symm)) hb); have BK357 := Aside0.mk (hbox); have GW357 := Aside0.mk ((by rw [hg]; exact (below_size (hS HB.out)) : w.heap.size ≤ gb357)); have GE357 := Aside0.mk ((by rw [hg]; exact (below_size (hS HB.out)) : w.heap.size ≤ gb357)); replace HB := Aside0.mk (below_step (hS HB.out) hb); clear hb hbox hg) | ((with_reducible refine gate_dst (N := 2) rfl ?_); refine box_event ?hg (N := 2) ?hd (cs := #[.string (⟨#[]⟩ : ByteArray), .bool false, .int .i64 0, .int .i64 0, .int .i64 0, .string (⟨#[]⟩ : ByteArray)]) (t := 34) ?hr ?_; (case hd => rfl); (case hg => rfl); (case hr => first | (go_simp; done) | (go_simp; rfl)); intro gb358 hg w21 hbox hb; replace HO0_0 := Aside0.mk (Kd.V_below (Kd.V_elderB (vS HO0_0.out) gb358 (Nat.le_of_eq hg.symm)) hb); have BK358 := Aside0.mk (hbox); have GW358 := Aside0.mk ((by rw [hg]; exact (below_size (hS HB.out)) : w.heap.size ≤ gb358)); have GE358 := Aside0.mk ((by rw [hg]; exact (below_size (hS HB.out)) : w.heap.size ≤ gb358)); replace HB := Aside0.mk (below_step (hS HB.out) hb); have NB357_358 := Aside0.mk ((by rw [hg]; exact Nat.ne_of_lt (blk_lt (bS BK357.out)) : gb357 ≠ gb358)); have NB358_357 := Aside0.mk ((by rw [hg]; exact Nat.ne_of_gt (blk_lt (bS BK357.out)) : gb358 ≠ gb357)); replace BK357 := Aside0.mk (blk_below (bS BK357.out) hb); clear hb hbox hg) | ((with_reducible refine gate_dst (N := 3) rfl ?_); refine box_event ?hg (N := 3) ?hd (cs := #[.slice none 0 0, .bool false]) (t := 26) ?hr ?_; (case hd => rfl); (case hg => rfl); (case hr => first | (go_simp; done) | (go_simp; rfl)); intro gb359 hg w22 hbox hb; replace HO0_0 := Aside0.mk (Kd.V_below (Kd.V_elderB (vS HO0_0.out) gb359 (Nat.le_of_eq hg.symm)) hb); have BK359 := Aside0.mk (hbox); have GW359 := Aside0.mk ((by rw [hg]; exact (below_size (hS HB.out)) : w.heap.size ≤ gb359)); have GE359 := Aside0.mk ((by rw [hg]; exact (below_size (hS HB.out)) : w.heap.size ≤ gb359)); replace HB := Aside0.mk (below_step (hS HB.out) hb); have NB357_359 := Aside0.mk ((by rw [hg]; exact Nat.ne_of_lt (blk_lt (bS BK357.out)) : gb357 ≠ gb359)); have NB359_357 := Aside0.mk ((by rw [hg]; exact Nat.ne_of_gt (blk_lt (bS BK357.out)) : gb359 ≠ gb357)); replace BK357 := Aside0.mk (blk_below (bS BK357.out) hb); have NB358_359 := Aside0.mk ((by rw [hg]; exact Nat.ne_of_lt (blk_lt (bS BK358.out)) : gb358 ≠ gb359)); have NB359_358 := Aside0.mk ((by rw [hg]; exact Nat.ne_of_gt (blk_lt (bS BK358.out)) : gb359 ≠ gb358)); replace BK358 := Aside0.mk (blk_below (bS BK358.out) hb); clear hb hbox hg; have hnb23 := NB357_358.out; have hnc23 := NB358_357.out; have hnb24 := NB357_359.out; have hnc24 := NB359_357.out; have hcz25_0 : w22.cell? ⟨gb357, 0, none⟩ = some (.slice A0_0 l0_0.length c0_0) := (blk_cell BK357.out 0).trans rfl; have hcz25_1 : w22.cell? ⟨gb357, 1, none⟩ = some (.bool a0_1) := (blk_cell BK357.out 1).trans rfl; have hfz25_0 := blk_frozen BK357.out 0; have hfz25_1 := blk_frozen BK357.out 1))
    replace HO0_0 := Aside0.mk (Kd.V_drew HO0_0.out)
    replace BK357 := Aside0.mk (blk_drew BK357.out)
    replace BK358 := Aside0.mk (blk_drew BK358.out)
    replace BK359 := Aside0.mk (blk_drew BK359.out)
    replace HB := Aside0.mk (below_drew1 HB.out)
    have p360 : 0 ≤ (0 : Int) := (by omega)
    have q360 : 0 < (l0_0.length : Int) := of_decide_eq_true (by first | (with_reducible assumption) | assumption)
    obtain ⟨ad360, e360, hx360_0, hx360_1, hx360_2, hx360_3, hx360_4, hx360_5⟩ := at_T34 (Kd.V_reads' HO0_0.out).2.2 0 p360 q360
    cases e360
    have qi360 : (0 < l0_0.length) = True := eq_true (by omega)
    (try rw [show ((0 : Int)).toNat = 0 from rfl] at hx360_0)
    (try rw [show 0 * 6 = 0 from rfl] at hx360_0)
    (try rw [Addr.add_zero'] at hx360_0)
    (try rw [show ((0 : Int)).toNat = 0 from rfl] at hx360_1)
    (try rw [show 0 * 6 = 0 from rfl] at hx360_1)
    (try rw [Addr.add_zero'] at hx360_1)
    (try rw [show ((0 : Int)).toNat = 0 from rfl] at hx360_2)
    (try rw [show 0 * 6 = 0 from rfl] at hx360_2)
    (try rw [Addr.add_zero'] at hx360_2)
    (try rw [show ((0 : Int)).toNat = 0 from rfl] at hx360_3)
    (try rw [show 0 * 6 = 0 from rfl] at hx360_3)
    (try rw [Addr.add_zero'] at hx360_3)
    (try rw [show ((0 : Int)).toNat = 0 from rfl] at hx360_4)
    (try rw [show 0 * 6 = 0 from rfl] at hx360_4)
    (try rw [Addr.add_zero'] at hx360_4)
    (try rw [show ((0 : Int)).toNat = 0 from rfl] at hx360_5)
    (try rw [show 0 * 6 = 0 from rfl] at hx360_5)
    (try rw [Addr.add_zero'] at hx360_5)
    replace p360 := eq_true p360
    replace q360 := eq_true q360
    have q27 : (1 : Int) ≤ ((l0_0.length : Int) : Int) := of_decide_eq_true (by first | (with_reducible assumption) | assumption)
    obtain ⟨i027, hi027, _, hsz27, _⟩ := info_parts info34
    have hroom27 : l0_0.length ≤ c0_0 := (Kd.V_reads' HO0_0.out).2.1
    have hC27 : Kd.F k34 _ _ (some ad360) l0_0.length l0_0 := (Kd.V_at (base := w.heap.size) HO0_0.out).2.2
    have hcut27 := cut_from (P := Try.prog) 24 34 .i64 Try.underlying24 hi027 6 hsz27 (some ad360) l0_0.length c0_0 1 (by omega) q27
    have hr27 := Kd.F_cut (m := (1 : Int).toNat) (c := c0_0) hC27 (by omega) hroom27
    obtain ⟨A27, hA27⟩ : ∃ A1, A1 = (if c0_0 = (1 : Int).toNat then (some ad360) else ((some ad360) : Option Addr).map (·.add ((1 : Int).toNat * 6))) := ⟨_, rfl⟩
    obtain ⟨c27, hc27⟩ : ∃ c1, c1 = c0_0 - (1 : Int).toNat := ⟨_, rfl⟩
    have hy27 : y361.length = l0_0.length - (1 : Int).toNat := (by rw [Ny361.out, List.length_drop] <;> omega)
    rw [show (l0_0).drop (1 : Int).toNat = y361 from Ny361.out.symm] at hr27
    replace hr27 : Kd.F k34 _ _ A27 y361.length y361 := (by rw [hA27]; exact hr27)
    rw [← hy27, ← hA27, ← hc27] at hcut27
    have HO365 := Aside0.mk (show Kd.V k34 34 _ w.heap.size _ (.slice A27 y361.length c27) y361 from Kd.V_mk (by rw [hy27, hc27]; exact Nat.sub_le_sub_right hroom27 _) hr27)
    have HC365 := Aside0.mk (show y361.length ≤ c27 from by rw [hy27, hc27]; exact Nat.sub_le_sub_right hroom27 _)
    clear hr27 hC27 hroom27 hi027 hsz27 hc27
    have KY27 := Aside0.mk hy27
    have KA27 := Aside0.mk hA27
    clear hy27 hA27
    replace q27 := eq_true q27
    refine start_ (n := 13) (S := fun w' => w'.cell? ⟨gb357, 0, none⟩ = some (.slice (some ad360) l0_0.length c0_0) ∧ w'.cell? ⟨gb357, 1, none⟩ = some (.bool a0_1) ∧ w'.cell? ad360 = some (.string ((rd_T34 l0_0 0).f0)) ∧ w'.cell? ⟨ad360.block, ad360.off + 1, none⟩ = some (.bool ((rd_T34 l0_0 0).f1)) ∧ w'.cell? ⟨ad360.block, ad360.off + 2, none⟩ = some (.int .i64 ((rd_T34 l0_0 0).f2.f0)) ∧ w'.cell? ⟨ad360.block, ad360.off + 3, none⟩ = some (.int .i64 ((rd_T34 l0_0 0).f2.f1)) ∧ w'.cell? ⟨ad360.block, ad360.off + 4, none⟩ = some (.int .i64 ((rd_T34 l0_0 0).f2.f2)) ∧ w'.cell? ⟨ad360.block, ad360.off + 5, none⟩ = some (.string ((rd_T34 l0_0 0).f2.f3))) (ds := []) #[false, false, false, false, false, false, false, false, false, false, false, false, false] (by kernel_rfl) rfl rfl ⟨(blk_cell BK357.out 0).trans rfl, (blk_cell BK357.out 1).trans rfl, hx360_0, hx360_1, hx360_2, hx360_3, hx360_4, hx360_5⟩ (fun hHeld => ?_); refine with_tabW rollcallref17_Pop.tab3 rollcallref17_Pop.bits3 (fun HT_ HW_ => ?_)
    generalize w22.drew = w26 at HO0_0 BK357 BK358 BK359 HB HO365 hx360_0 hx360_1 hx360_2 hx360_3 hx360_4 hx360_5 hHeld ⊢
    refine pure_ (i := 0) (N := some 11) (v := ?_) (a' := ?_) #[true, false, false, false, false, false, false, false, false, false, false, false, false] rfl rfl (any_of HT_.out (by kernel_rfl)) (fun _ _ _ h => h) (Or.inl ⟨by rfl, ?_⟩) ?_ ?_
    rotate_left
    ·intro w'
     go_simp
     with_reducible rfl
    rotate_left
    ·simp only [Act.put, List.setIfInBounds_toArray, List.set_cons_zero, List.set_cons_succ, i64_w, i32_w]
     rfl
    refine pure_ (i := 4) (N := some 15) (v := ?_) (a' := ?_) #[true, false, false, false, true, false, false, false, false, false, false, false, false] rfl rfl (any_of HT_.out (by kernel_rfl)) (fun _ _ _ h => h) (Or.inl ⟨by rfl, ?_⟩) ?_ ?_
    rotate_left
    ·intro w'
     go_simp
     with_reducible rfl
    rotate_left
    ·simp only [Act.put, List.setIfInBounds_toArray, List.set_cons_zero, List.set_cons_succ, i64_w, i32_w]
     rfl
    refine pure_ (i := 7) (N := some 18) (v := ?_) (a' := ?_) #[true, false, false, false, true, false, false, true, false, false, false, false, false] rfl rfl (any_of HT_.out (by kernel_rfl)) (fun _ _ _ h => h) (Or.inl ⟨by rfl, ?_⟩) ?_ ?_
    rotate_left
    ·intro w'
     go_simp
     with_reducible rfl
    rotate_left
    ·simp only [Act.put, List.setIfInBounds_toArray, List.set_cons_zero, List.set_cons_succ, i64_w, i32_w]
     rfl
    refine take_ (i := 1) (N := some 12) (v := ?_) (a' := ?_) #[true, true, false, false, true, false, false, true, false, false, false, false, false] rfl rfl (take_ofW HT_.out HW_.out (by kernel_rfl)) (fun _ _ _ h => h) (Or.inl ⟨by rfl, ?_⟩) hHeld ?_ ?_
    rotate_left
    ·rintro w' ⟨s0, s1, s2, s3, s4, s5, s6, s7⟩
     go_simp
     with_reducible rfl
    rotate_left
    ·simp only [Act.put, List.setIfInBounds_toArray, List.set_cons_zero, List.set_cons_succ, i64_w, i32_w]
     rfl
    refine pure_ (i := 2) (N := some 13) (v := ?_) (a' := ?_) #[true, true, true, false, true, false, false, true, false, false, false, false, false] rfl rfl (any_of HT_.out (by kernel_rfl)) (fun _ _ _ h => h) (Or.inl ⟨by rfl, ?_⟩) ?_ ?_
    rotate_left
    ·intro w'
     go_simp
     with_reducible rfl
    rotate_left
    ·simp only [Act.put, List.setIfInBounds_toArray, List.set_cons_zero, List.set_cons_succ, i64_w, i32_w]
     rfl
    refine take_ (i := 3) (N := some 14) (v := ?_) (a' := ?_) #[true, true, true, true, true, false, false, true, false, false, false, false, false] rfl rfl (take_ofW HT_.out HW_.out (by kernel_rfl)) (fun _ _ _ h => h) (Or.inl ⟨by rfl, ?_⟩) hHeld ?_ ?_
    rotate_left
    ·rintro w' ⟨s0, s1, s2, s3, s4, s5, s6, s7⟩
     go_simp
     with_reducible rfl
    rotate_left
    ·simp only [Act.put, List.setIfInBounds_toArray, List.set_cons_zero, List.set_cons_succ, i64_w, i32_w]
     rfl
    refine take_ (i := 5) (N := some 16) (v := ?_) (a' := ?_) #[true, true, true, true, true, true, false, true, false, false, false, false, false] rfl rfl (take_ofW HT_.out HW_.out (by kernel_rfl)) (fun _ _ _ h => h) (Or.inl ⟨by rfl, ?_⟩) hHeld ?_ ?_
    rotate_left
    ·rintro w' ⟨s0, s1, s2, s3, s4, s5, s6, s7⟩
     go_simp
     with_reducible rfl
    rotate_left
    ·simp only [Act.put, List.setIfInBounds_toArray, List.set_cons_zero, List.set_cons_succ, i64_w, i32_w]
     rfl
    refine pure_ (i := 6) (N := some 17) (v := ?_) (a' := ?_) #[true, true, true, true, true, true, true, true, false, false, false, false, false] rfl rfl (any_of HT_.out (by kernel_rfl)) (fun _ _ _ h => h) (Or.inl ⟨by rfl, ?_⟩) ?_ ?_
    rotate_left
    ·intro w'
     go_simp
     with_reducible rfl
    rotate_left
    ·simp only [Act.put, List.setIfInBounds_toArray, List.set_cons_zero, List.set_cons_succ, i64_w, i32_w]
     rfl
    refine take_ (i := 8) (N := some 19) (v := ?_) (a' := ?_) #[true, true, true, true, true, true, true, true, true, false, false, false, false] rfl rfl (take_ofW HT_.out HW_.out (by kernel_rfl)) (fun _ _ _ h => h) (Or.inl ⟨by rfl, ?_⟩) hHeld ?_ ?_
    rotate_left
    ·rintro w' ⟨s0, s1, s2, s3, s4, s5, s6, s7⟩
     go_simp
     with_reducible rfl
    rotate_left
    ·simp only [Act.put, List.setIfInBounds_toArray, List.set_cons_zero, List.set_cons_succ, i64_w, i32_w]
     rfl
    refine pure_ (i := 9) (N := some 20) (v := ?_) (a' := ?_) #[true, true, true, true, true, true, true, true, true, true, false, false, false] rfl rfl (any_of HT_.out (by kernel_rfl)) (fun _ _ _ h => h) (Or.inl ⟨by rfl, ?_⟩) ?_ ?_
    rotate_left
    ·intro w'
     go_simp
     with_reducible rfl
    rotate_left
    ·simp only [Act.put, List.setIfInBounds_toArray, List.set_cons_zero, List.set_cons_succ, i64_w, i32_w]
     rfl
    refine one_ (i := 10) (N := none) #[true, true, true, true, true, true, true, true, true, true, true, false, false] rfl rfl (one_of HT_.out (by kernel_rfl)) (by decide) (fun K hK => ?_)
    have hs28 : w26.cell? ⟨gb358, 0, none⟩ = some (.string (⟨#[]⟩ : ByteArray)) := (blk_cell BK358.out 0).trans rfl
    have hfs28 := blk_frozen BK358.out 0
    have hns28_0 := NB357_358.out
    have hns28_2 := NB359_358.out
    have hms28_0 := NB358_357.out
    have hms28_2 := NB358_359.out
    have hs29 : w26.cell? ⟨gb358, 1, none⟩ = some (.bool false) := (blk_cell BK358.out 1).trans rfl
    have hfs29 := blk_frozen BK358.out 1
    have hns29_0 := NB357_358.out
    have hns29_2 := NB359_358.out
    have hms29_0 := NB358_357.out
    have hms29_2 := NB358_359.out
    have hs30 : w26.cell? ⟨gb358, 2, none⟩ = some (.int .i64 0) := (blk_cell BK358.out 2).trans rfl
    have hfs30 := blk_frozen BK358.out 2
    have hns30_0 := NB357_358.out
    have hns30_2 := NB359_358.out
    have hms30_0 := NB358_357.out
    have hms30_2 := NB358_359.out
    have hs31 : w26.cell? ⟨gb358, 3, none⟩ = some (.int .i64 0) := (blk_cell BK358.out 3).trans rfl
    have hfs31 := blk_frozen BK358.out 3
    have hns31_0 := NB357_358.out
    have hns31_2 := NB359_358.out
    have hms31_0 := NB358_357.out
    have hms31_2 := NB358_359.out
    have hs32 : w26.cell? ⟨gb358, 4, none⟩ = some (.int .i64 0) := (blk_cell BK358.out 4).trans rfl
    have hfs32 := blk_frozen BK358.out 4
    have hns32_0 := NB357_358.out
    have hns32_2 := NB359_358.out
    have hms32_0 := NB358_357.out
    have hms32_2 := NB358_359.out
    have hs33 : w26.cell? ⟨gb358, 5, none⟩ = some (.string (⟨#[]⟩ : ByteArray)) := (blk_cell BK358.out 5).trans rfl
    have hfs33 := blk_frozen BK358.out 5
    have hns33_0 := NB357_358.out
    have hns33_2 := NB359_358.out
    have hms33_0 := NB358_357.out
    have hms33_2 := NB358_359.out
    refine skip_ (w1 := ?_) (by rfl) rfl ?_ ?_
    rotate_left
    ·go_simp
     rfl
    have far0_ := Kd.V_apart (g := gb358) HO0_0.out (by decide) (by first | exact of_eq_true (by with_reducible assumption) | exact of_decide_eq_true (by with_reducible assumption) | omega) (fun _ hk => hk.1.2)
    refine hK.out _ _ ⟨((cell_far (p := ⟨gb358, _, none⟩) NB357_358.out _).trans (((cell_far (p := ⟨gb358, _, none⟩) NB357_358.out _).trans (((cell_far (p := ⟨gb358, _, none⟩) NB357_358.out _).trans (((cell_far (p := ⟨gb358, _, none⟩) NB357_358.out _).trans (((cell_far (p := ⟨gb358, _, none⟩) NB357_358.out _).trans (((cell_far (p := ⟨gb358, _, none⟩) NB357_358.out _).trans (hHeld.1)))))))))))), ((cell_far (p := ⟨gb358, _, none⟩) NB357_358.out _).trans (((cell_far (p := ⟨gb358, _, none⟩) NB357_358.out _).trans (((cell_far (p := ⟨gb358, _, none⟩) NB357_358.out _).trans (((cell_far (p := ⟨gb358, _, none⟩) NB357_358.out _).trans (((cell_far (p := ⟨gb358, _, none⟩) NB357_358.out _).trans (((cell_far (p := ⟨gb358, _, none⟩) NB357_358.out _).trans (hHeld.2.1)))))))))))), ((cell_far (p := ⟨gb358, _, none⟩) (by exact far0_) _).trans (((cell_far (p := ⟨gb358, _, none⟩) (by exact far0_) _).trans (((cell_far (p := ⟨gb358, _, none⟩) (by exact far0_) _).trans (((cell_far (p := ⟨gb358, _, none⟩) (by exact far0_) _).trans (((cell_far (p := ⟨gb358, _, none⟩) (by exact far0_) _).trans (((cell_far (p := ⟨gb358, _, none⟩) (by exact far0_) _).trans (hHeld.2.2.1)))))))))))), ((cell_far (p := ⟨gb358, _, none⟩) (by exact far0_) _).trans (((cell_far (p := ⟨gb358, _, none⟩) (by exact far0_) _).trans (((cell_far (p := ⟨gb358, _, none⟩) (by exact far0_) _).trans (((cell_far (p := ⟨gb358, _, none⟩) (by exact far0_) _).trans (((cell_far (p := ⟨gb358, _, none⟩) (by exact far0_) _).trans (((cell_far (p := ⟨gb358, _, none⟩) (by exact far0_) _).trans (hHeld.2.2.2.1)))))))))))), ((cell_far (p := ⟨gb358, _, none⟩) (by exact far0_) _).trans (((cell_far (p := ⟨gb358, _, none⟩) (by exact far0_) _).trans (((cell_far (p := ⟨gb358, _, none⟩) (by exact far0_) _).trans (((cell_far (p := ⟨gb358, _, none⟩) (by exact far0_) _).trans (((cell_far (p := ⟨gb358, _, none⟩) (by exact far0_) _).trans (((cell_far (p := ⟨gb358, _, none⟩) (by exact far0_) _).trans (hHeld.2.2.2.2.1)))))))))))), ((cell_far (p := ⟨gb358, _, none⟩) (by exact far0_) _).trans (((cell_far (p := ⟨gb358, _, none⟩) (by exact far0_) _).trans (((cell_far (p := ⟨gb358, _, none⟩) (by exact far0_) _).trans (((cell_far (p := ⟨gb358, _, none⟩) (by exact far0_) _).trans (((cell_far (p := ⟨gb358, _, none⟩) (by exact far0_) _).trans (((cell_far (p := ⟨gb358, _, none⟩) (by exact far0_) _).trans (hHeld.2.2.2.2.2.1)))))))))))), ((cell_far (p := ⟨gb358, _, none⟩) (by exact far0_) _).trans (((cell_far (p := ⟨gb358, _, none⟩) (by exact far0_) _).trans (((cell_far (p := ⟨gb358, _, none⟩) (by exact far0_) _).trans (((cell_far (p := ⟨gb358, _, none⟩) (by exact far0_) _).trans (((cell_far (p := ⟨gb358, _, none⟩) (by exact far0_) _).trans (((cell_far (p := ⟨gb358, _, none⟩) (by exact far0_) _).trans (hHeld.2.2.2.2.2.2.1)))))))))))), ((cell_far (p := ⟨gb358, _, none⟩) (by exact far0_) _).trans (((cell_far (p := ⟨gb358, _, none⟩) (by exact far0_) _).trans (((cell_far (p := ⟨gb358, _, none⟩) (by exact far0_) _).trans (((cell_far (p := ⟨gb358, _, none⟩) (by exact far0_) _).trans (((cell_far (p := ⟨gb358, _, none⟩) (by exact far0_) _).trans (((cell_far (p := ⟨gb358, _, none⟩) (by exact far0_) _).trans (hHeld.2.2.2.2.2.2.2))))))))))))⟩ (fun hHeld => ?_)
    clear far0_
    clear hK K
    clear hs28 hfs28 hns28_0 hns28_2 hms28_0 hms28_2 hs29 hfs29 hns29_0 hns29_2 hms29_0 hms29_2 hs30 hfs30 hns30_0 hns30_2 hms30_0 hms30_2 hs31 hfs31 hns31_0 hns31_2 hms31_0 hms31_2 hs32 hfs32 hns32_0 hns32_2 hms32_0 hms32_2 hs33 hfs33 hns33_0 hns33_2 hms33_0 hms33_2
    generalize hq_ : ((((((w26.setCell ⟨gb358, 0, none⟩ (.string ((rd_T34 l0_0 0).f0))).setCell ⟨gb358, 1, none⟩ (.bool ((rd_T34 l0_0 0).f1))).setCell ⟨gb358, 2, none⟩ (.int .i64 ((rd_T34 l0_0 0).f2.f0))).setCell ⟨gb358, 3, none⟩ (.int .i64 ((rd_T34 l0_0 0).f2.f1))).setCell ⟨gb358, 4, none⟩ (.int .i64 ((rd_T34 l0_0 0).f2.f2))).setCell ⟨gb358, 5, none⟩ (.string ((rd_T34 l0_0 0).f2.f3))) = w26_c at hHeld ⊢
    have z_ := @id (((((((w26.setCell ⟨gb358, 0, none⟩ (.string ((rd_T34 l0_0 0).f0))).setCell ⟨gb358, 1, none⟩ (.bool ((rd_T34 l0_0 0).f1))).setCell ⟨gb358, 2, none⟩ (.int .i64 ((rd_T34 l0_0 0).f2.f0))).setCell ⟨gb358, 3, none⟩ (.int .i64 ((rd_T34 l0_0 0).f2.f1))).setCell ⟨gb358, 4, none⟩ (.int .i64 ((rd_T34 l0_0 0).f2.f2))).setCell ⟨gb358, 5, none⟩ (.string ((rd_T34 l0_0 0).f2.f3))).heap[gb358]? = some _) (bS (blk_put (bS (blk_put (bS (blk_put (bS (blk_put (bS (blk_put (bS (blk_put (bS BK358.out) 0 _ rfl)) 1 _ rfl)) 2 _ rfl)) 3 _ rfl)) 4 _ rfl)) 5 _ rfl)); rw [hq_] at z_; replace BK358 := Aside0.mk z_; clear z_
    have z_ := @id (((((((w26.setCell ⟨gb358, 0, none⟩ (.string ((rd_T34 l0_0 0).f0))).setCell ⟨gb358, 1, none⟩ (.bool ((rd_T34 l0_0 0).f1))).setCell ⟨gb358, 2, none⟩ (.int .i64 ((rd_T34 l0_0 0).f2.f0))).setCell ⟨gb358, 3, none⟩ (.int .i64 ((rd_T34 l0_0 0).f2.f1))).setCell ⟨gb358, 4, none⟩ (.int .i64 ((rd_T34 l0_0 0).f2.f2))).setCell ⟨gb358, 5, none⟩ (.string ((rd_T34 l0_0 0).f2.f3))).heap[gb359]? = some _) (bF BK359.out NB359_358.out); rw [hq_] at z_; replace BK359 := Aside0.mk z_; clear z_
    have z_ := @id (Kd.V _ _ ((((((w26.setCell ⟨gb358, 0, none⟩ (.string ((rd_T34 l0_0 0).f0))).setCell ⟨gb358, 1, none⟩ (.bool ((rd_T34 l0_0 0).f1))).setCell ⟨gb358, 2, none⟩ (.int .i64 ((rd_T34 l0_0 0).f2.f0))).setCell ⟨gb358, 3, none⟩ (.int .i64 ((rd_T34 l0_0 0).f2.f1))).setCell ⟨gb358, 4, none⟩ (.int .i64 ((rd_T34 l0_0 0).f2.f2))).setCell ⟨gb358, 5, none⟩ (.string ((rd_T34 l0_0 0).f2.f3))) _ _ _ _) (vF (b := gb358) (Kd.V_mono HO365.out (fun k_ hk => (⟨hk, hk.1.2⟩ : _ ∧ k_ ≠ gb358))) (fun _ hk => hk.2)); rw [hq_] at z_; replace HO365 := Aside0.mk z_; clear z_
    replace HB : Aside0 (Below w.heap.size w w26_c) := ⟨by rw [← hq_]; exact (by repeat (first | (with_reducible first | exact HB.out | apply below_alloc | apply pw_below_drewN | apply below_drew1 | refine below_set ?_ GE357.out | refine below_set ?_ GE358.out | refine below_set ?_ GE359.out) | exact HB.out))⟩
    clear hq_
    refine one_ (i := 11) (N := none) #[true, true, true, true, true, true, true, true, true, true, true, true, false] rfl rfl (one_of HT_.out (by kernel_rfl)) (by decide) (fun K hK => ?_)
    have hs34 : w26_c.cell? ⟨gb359, 0, none⟩ = some (.slice none 0 0) := (blk_cell BK359.out 0).trans rfl
    have hfs34 := blk_frozen BK359.out 0
    have hns34_0 := NB357_359.out
    have hns34_1 := NB358_359.out
    have hms34_0 := NB359_357.out
    have hms34_1 := NB359_358.out
    have hs35 : w26_c.cell? ⟨gb359, 1, none⟩ = some (.bool false) := (blk_cell BK359.out 1).trans rfl
    have hfs35 := blk_frozen BK359.out 1
    have hns35_0 := NB357_359.out
    have hns35_1 := NB358_359.out
    have hms35_0 := NB359_357.out
    have hms35_1 := NB359_358.out
    refine skip_ (w1 := ?_) (by rfl) rfl ?_ ?_
    rotate_left
    ·go_simp
     rfl
    have far0_ := Kd.V_apart (g := gb359) HO0_0.out (by decide) (by first | exact of_eq_true (by with_reducible assumption) | exact of_decide_eq_true (by with_reducible assumption) | omega) (fun _ hk => hk.2)
    refine hK.out _ _ ⟨((cell_far (p := ⟨gb359, _, none⟩) NB357_359.out _).trans (((cell_far (p := ⟨gb359, _, none⟩) NB357_359.out _).trans (hHeld.1)))), ((cell_far (p := ⟨gb359, _, none⟩) NB357_359.out _).trans (((cell_far (p := ⟨gb359, _, none⟩) NB357_359.out _).trans (hHeld.2.1)))), ((cell_far (p := ⟨gb359, _, none⟩) (by exact far0_) _).trans (((cell_far (p := ⟨gb359, _, none⟩) (by exact far0_) _).trans (hHeld.2.2.1)))), ((cell_far (p := ⟨gb359, _, none⟩) (by exact far0_) _).trans (((cell_far (p := ⟨gb359, _, none⟩) (by exact far0_) _).trans (hHeld.2.2.2.1)))), ((cell_far (p := ⟨gb359, _, none⟩) (by exact far0_) _).trans (((cell_far (p := ⟨gb359, _, none⟩) (by exact far0_) _).trans (hHeld.2.2.2.2.1)))), ((cell_far (p := ⟨gb359, _, none⟩) (by exact far0_) _).trans (((cell_far (p := ⟨gb359, _, none⟩) (by exact far0_) _).trans (hHeld.2.2.2.2.2.1)))), ((cell_far (p := ⟨gb359, _, none⟩) (by exact far0_) _).trans (((cell_far (p := ⟨gb359, _, none⟩) (by exact far0_) _).trans (hHeld.2.2.2.2.2.2.1)))), ((cell_far (p := ⟨gb359, _, none⟩) (by exact far0_) _).trans (((cell_far (p := ⟨gb359, _, none⟩) (by exact far0_) _).trans (hHeld.2.2.2.2.2.2.2))))⟩ (fun hHeld => ?_)
    clear far0_
    clear hK K
    refine pure_ (i := 12) (N := some 4) (v := ?_) (a' := ?_) #[true, true, true, true, true, true, true, true, true, true, true, true, true] rfl rfl (any_of HT_.out (by kernel_rfl)) (fun _ _ _ h => h) (Or.inl ⟨by rfl, ?_⟩) ?_ ?_
    rotate_left
    ·intro w'
     go_simp
     with_reducible rfl
    rotate_left
    ·simp only [Act.put, List.setIfInBounds_toArray, List.set_cons_zero, List.set_cons_succ, i64_w, i32_w]
     rfl
    refine done_ (done_of HT_.out (by kernel_rfl)) ?_
    try go_wp2
    refine bodyPost_ret (results_list (rs := [.cell 2 34, .cell 3 26, .tmp 4]) rfl (by simp) (.cell gb358 34 #[.string ((rd_T34 l0_0 0).f0), .bool ((rd_T34 l0_0 0).f1), .int .i64 ((rd_T34 l0_0 0).f2.f0), .int .i64 ((rd_T34 l0_0 0).f2.f1), .int .i64 ((rd_T34 l0_0 0).f2.f2), .string ((rd_T34 l0_0 0).f2.f3)] (0, 0) _ rfl (bF BK358.out NB358_359.out) Try.underlying34 rfl (by kernel_rfl) (.cell gb359 26 #[.slice A27 y361.length c27, .bool a0_1] (0, 0) _ rfl (bS (blk_put (bS (blk_put BK359.out 0 _ rfl)) 1 _ rfl)) Try.underlying26 rfl (by kernel_rfl) (.tmp .nil)))) rfl ?_
    exact ⟨_, by first | rfl | (simp [errW_none, errW_some] <;> rfl) | (simp [*, errW_none, errW_some] <;> rfl), by (with_reducible repeat (first | apply Kd.V_alloc | apply Kd.V_drewN | apply Kd.V_drew)); exact Kd.V_mono (vF (b := gb359) (Kd.V_mono HO365.out (fun k_ hk => (⟨hk, hk.1.2⟩ : _ ∧ k_ ≠ gb359))) (fun _ hk => hk.2)) (fun _ hk => hk.1.1.1.1.1), by repeat (first | (with_reducible first | exact HB.out | apply below_alloc | apply pw_below_drewN | apply below_drew1 | refine below_set ?_ GE357.out | refine below_set ?_ GE358.out | refine below_set ?_ GE359.out) | exact HB.out)⟩
   ·rw [if_neg c19] at H
    exact absurd H (by simp)
  ·rw [if_neg c18] at H
   exact absurd H (by simp)

end Go.Proofs.Ytmigglldahkngaa.PA
end

section
/- What the reference's functions of queue answer, over plain lists: pushes, pops, tables. -/
namespace Go.Proofs.Ytmigglldahkngaa.XV17
open Go.RowKit Go.Proofs.Ytmigglldahkngaa.PA Go.Proofs.YtmigglldahkngaaW.PrintWords Go.Proofs.YtmigglldahkngaaW.PrintLast Go.Proofs.Ytmigglldahkngaa.XGen
open Go.Proofs.Ytmigglldahkngaa.XPlace (idx is)
open Go.Proofs.Ytmigglldahkngaa.XSet (atL)
open Go.Proofs.Ytmigglldahkngaa.XIns (insL)
open Go.Proofs.Ytmigglldahkngaa.XLess (lessB)
set_option linter.unusedVariables false
set_option linter.unusedSimpArgs false
theorem refPop_b (l : List Ch) (lat : Bool) : rollcallref17_Pop.f l lat = some (popQ l lat) := by
 unfold rollcallref17_Pop.f popQ
 by_cases c : l.length = 0
 ·rw [if_pos (by omega), if_pos c]
 ·rw [if_neg (by omega), if_neg c, if_pos (by omega), if_pos (by omega)]
def isS (n : ByteArray) (x : Se) : Bool := x.f0.toList == n.toList
end Go.Proofs.Ytmigglldahkngaa.XV17
end

section
-- Written by a program of this session (wip/tools/xprint.py), which drives the kit's print.
namespace Go.Proofs.Ytmigglldahkngaa.PA
open Go.RowKit Go.Proofs.YtmigglldahkngaaW.PrintWords Go.Proofs.YtmigglldahkngaaW.PrintLast Go.Proofs.YtmigglldahkngaaW.PrintMore
attribute [local go_sem] max2_int min2_int max_two min_two   -- for this text's walks alone
set_option linter.unusedVariables false
set_option linter.unusedSimpArgs false

/-! ### rollcallref05_Put: function 59 -/
def rollcallref05_Put.l0 : Nat → List (S72) → ByteArray → Int → Option (ByteArray × Bool)
 | 0, _, _, _ => none
 | k + 1, x0, x4, x5 => if x5 < (x0.length : Int) then (if 0 ≤ x5 then ((rollcallref03_Put.f k ((rd_T72 x0 x5).f0)).bind fun bt340 => ((rollcallref04_Put.f k ((rd_T72 x0 x5).f1.f0) ((rd_T72 x0 x5).f1.f1) ((rd_T72 x0 x5).f1.f2) ((rd_T72 x0 x5).f1.f3)).bind fun bt343 => (if x4.size + bt340.1.size ≤ 9223372036854775807 then (if (x4 ++ bt340.1).size + bt343.1.size ≤ 9223372036854775807 then (rollcallref05_Put.l0 k x0 ((x4 ++ bt340.1) ++ bt343.1) (wrap64 (x5 + 1))) else (none)) else (none)))) else (none)) else (some (x4, true))
def rollcallref05_Put.f (k : Nat) (l0 : List (S72)) : Option (ByteArray × Bool) := (rollcallref05_May.f k l0).bind fun t337 => (if t337 = true then ((rollcallref01_Put.f k (IntKind.u64.wrap ((l0.length : Int)))).bind fun t338 => (rollcallref05_Put.l0 k l0 t338 0)) else (some ((⟨#[]⟩ : ByteArray), false)))
set_option maxHeartbeats 8000000 in
set_option maxRecDepth 100000 in
theorem rollcallref05_Put.calls (k : Nat) (A0 : Option Addr) (c0 : Nat) (l0 : List (S72)) (r1 : ByteArray) (r2 : Bool) (w : World) (hr0 : Kd.C k72 w A0 l0.length l0) (hc0 : l0.length ≤ c0) (h : rollcallref05_Put.f k l0 = some (r1, r2)) :
  Calls Try.prog 59 #[.slice A0 l0.length c0] w fun e w' => e = .returned (.tuple #[.string r1, .bool r2]) ∧ Below w.heap.size w w' := by
 have hu32 := Try.underlying32
 have HR0 := Aside0.mk hr0
 have HC0 := Aside0.mk hc0
 clear hr0 hc0
 have HB := Aside0.mk (Below.refl w.heap.size w)
 have H : ((rollcallref05_May.f k l0).bind fun t337 => (if t337 = true then ((rollcallref01_Put.f k (IntKind.u64.wrap ((l0.length : Int)))).bind fun t338 => (rollcallref05_Put.l0 k l0 t338 0)) else (some ((⟨#[]⟩ : ByteArray), false)))) = some (r1, r2) := h
 clear h
 replace H := Option.bind_eq_some_iff.mp H
 obtain ⟨t337, A20, H⟩ := H
 replace H : (if t337 = true then ((rollcallref01_Put.f k (IntKind.u64.wrap ((l0.length : Int)))).bind fun t338 => (rollcallref05_Put.l0 k l0 t338 0)) else (some ((⟨#[]⟩ : ByteArray), false))) = some (r1, r2) := H
 have A2 := Aside0.mk A20
 clear A20
 by_cases c3 : t337 = true
 ·subst c3
  have H1 : ((rollcallref01_Put.f k (IntKind.u64.wrap ((l0.length : Int)))).bind fun t338 => (rollcallref05_Put.l0 k l0 t338 0)) = some (r1, r2) := by rw [if_pos rfl] at H; exact H
  clear H
  have H := H1
  clear H1
  replace H := Option.bind_eq_some_iff.mp H
  obtain ⟨t338, A40, H⟩ := H
  replace H : (rollcallref05_Put.l0 k l0 t338 0) = some (r1, r2) := H
  have A4 := Aside0.mk A40
  clear A40
  have H' := Aside0.mk H
  clear H
  go_enter Try.func59, Try.ntmps59
  go_wp2_with (first | ((with_reducible refine gate_callee (f := 27) rfl ?_); refine goesL_ (some 11) rfl rfl Try.func27 (by kernel_rfl) rfl #[.slice A0 l0.length c0] rfl (by (try simp only [List.map_toArray, List.map_cons, List.map_nil]); first | done | rfl | (simp only [List.length_drop, List.length_take]; rfl)) ?_; (with_reducible refine (rollcallref05_May.calls k _ _ l0 true _ ?side1 ?side2 A2.out).mono ?_); (case side1 => repeat (first | exact HR0.out | (with_reducible refine Kd.C_alloc ?_ _) | (with_reducible refine Kd.C_drewN ?_ _) | (with_reducible refine Kd.C_drew ?_))); (case side2 => exact HC0.out); rintro e w5 ⟨rfl, hb⟩; refine ⟨_, rfl, ?_⟩; replace HB := Aside0.mk (below_step (hS HB.out) hb); (try clear hb); (try clear hb2); (try clear hk); (try clear hi)) | ((with_reducible refine gate_callee (f := 78) rfl ?_); refine goesL_ (some 16) rfl rfl Try.func78 (by kernel_rfl) rfl #[.int .u64 (IntKind.u64.wrap ((l0.length : Int)))] rfl (by (try simp only [List.map_toArray, List.map_cons, List.map_nil]); first | done | rfl | (simp only [List.length_drop, List.length_take]; rfl)) ?_; (with_reducible refine (rollcallref01_Put.calls k (IntKind.u64.wrap ((l0.length : Int))) t338 _ A4.out).mono ?_); rintro e w6 ⟨rfl, hb⟩; refine ⟨_, rfl, ?_⟩; replace HB := Aside0.mk (below_step (hS HB.out) hb); (try clear hb); (try clear hb2); (try clear hk); (try clear hi)))
  go_loopg [4, 5] k (fun kq v4 v5 w' => ∃ (x4_1 : ByteArray) (x5_1 : Int), v4 = .string x4_1 ∧ v5 = .int .i64 x5_1 ∧ Aside0 (rollcallref05_Put.l0 kq l0 x4_1 x5_1 = some (r1, r2)) ∧ Aside0 (kq ≤ k) ∧ Aside0 (Below w.heap.size w w'))
  case atStart => exact ⟨(t338), (0), (by first | rfl | (simp; done) | (simp [*]; done)), (by first | rfl | (simp; done) | (simp [*]; done)), H', ⟨Nat.le_refl _⟩, ⟨by repeat (first | (with_reducible first | exact HB.out | apply below_alloc | apply pw_below_drewN | apply below_drew1) | exact HB.out)⟩⟩
  case round =>
   clear H'
   try clear c2
   try clear p2
   try clear c3
   try clear c5
   obtain ⟨x4_1, x5_1, rfl, rfl, HA, HK1, HB⟩ := hrel
   cases gk with
   | zero => exact absurd HA.out (by simp [rollcallref05_Put.l0])
   | succ k1 =>
    have H := HA.out
    clear HA
    simp only [rollcallref05_Put.l0] at H
    by_cases c7 : x5_1 < (l0.length : Int)
    ·rw [if_pos c7] at H
     have c7b0 : decide (x5_1 < (l0.length : Int)) = true := decide_eq_true c7
     clear c7
     by_cases c8 : 0 ≤ x5_1
     ·rw [if_pos c8] at H
      have c8b0 : decide (0 ≤ x5_1) = true := decide_eq_true c8
      clear c8
      replace H := Option.bind_eq_some_iff.mp H
      obtain ⟨⟨t340, t341⟩, A90, H⟩ := H
      replace H : ((rollcallref04_Put.f k1 ((rd_T72 l0 x5_1).f1.f0) ((rd_T72 l0 x5_1).f1.f1) ((rd_T72 l0 x5_1).f1.f2) ((rd_T72 l0 x5_1).f1.f3)).bind fun bt343 => (if x4_1.size + t340.size ≤ 9223372036854775807 then (if (x4_1 ++ t340).size + bt343.1.size ≤ 9223372036854775807 then (rollcallref05_Put.l0 k1 l0 ((x4_1 ++ t340) ++ bt343.1) (wrap64 (x5_1 + 1))) else (none)) else (none))) = some (r1, r2) := H
      have A9 := Aside0.mk A90
      clear A90
      replace H := Option.bind_eq_some_iff.mp H
      obtain ⟨⟨t343, t344⟩, A100, H⟩ := H
      replace H : (if x4_1.size + t340.size ≤ 9223372036854775807 then (if (x4_1 ++ t340).size + t343.size ≤ 9223372036854775807 then (rollcallref05_Put.l0 k1 l0 ((x4_1 ++ t340) ++ t343) (wrap64 (x5_1 + 1))) else (none)) else (none)) = some (r1, r2) := H
      have A10 := Aside0.mk A100
      clear A100
      by_cases c11 : x4_1.size + t340.size ≤ 9223372036854775807
      ·rw [if_pos c11] at H
       have c11b0 := eq_true c11
       have c11b1 : decide (x4_1.size + t340.size ≤ 9223372036854775807) = true := decide_eq_true c11
       try have c11b2 : (9223372036854775807 < x4_1.size + t340.size) = False := eq_false (Nat.not_lt.2 c11)
       (try (have c11b3 := c11b0; simp only [ByteArray.size_append] at c11b3))
       (try (have c11b4 := c11b2; simp only [ByteArray.size_append] at c11b4))
       clear c11
       by_cases c12 : (x4_1 ++ t340).size + t343.size ≤ 9223372036854775807
       ·rw [if_pos c12] at H
        have c12b0 := eq_true c12
        have c12b1 : decide ((x4_1 ++ t340).size + t343.size ≤ 9223372036854775807) = true := decide_eq_true c12
        try have c12b2 : (9223372036854775807 < (x4_1 ++ t340).size + t343.size) = False := eq_false (Nat.not_lt.2 c12)
        (try (have c12b3 := c12b0; simp only [ByteArray.size_append] at c12b3))
        (try (have c12b4 := c12b2; simp only [ByteArray.size_append] at c12b4))
        clear c12
        have H' := Aside0.mk H
        clear H
        have p339 : 0 ≤ (x5_1 : Int) := of_decide_eq_true (by first | (with_reducible assumption) | assumption)
        have q339 : x5_1 < (l0.length : Int) := of_decide_eq_true (by first | (with_reducible assumption) | assumption)
        obtain ⟨ad339, e339, hx339_0, hx339_1, hx339_2, hx339_3, hx339_4⟩ := at_T72 HR0.out x5_1 p339 q339
        cases e339
        replace hx339_0 := (HB.out.cell (World.block_lt_of_cell? w _ hx339_0)).trans hx339_0
        replace hx339_1 := (HB.out.cell (World.block_lt_of_cell? w _ hx339_1)).trans hx339_1
        replace hx339_2 := (HB.out.cell (World.block_lt_of_cell? w _ hx339_2)).trans hx339_2
        replace hx339_3 := (HB.out.cell (World.block_lt_of_cell? w _ hx339_3)).trans hx339_3
        replace hx339_4 := (HB.out.cell (World.block_lt_of_cell? w _ hx339_4)).trans hx339_4
        replace p339 := eq_true p339
        replace q339 := eq_true q339
        go_wp2_with (first | ((with_reducible refine gate_callee (f := 79) rfl ?_); refine goesL_ (some 29) rfl rfl Try.func79 (by kernel_rfl) rfl #[.string ((rd_T72 l0 x5_1).f0)] rfl (by (try simp only [List.map_toArray, List.map_cons, List.map_nil]); first | done | rfl | (simp only [List.length_drop, List.length_take]; rfl)) ?_; (with_reducible refine (rollcallref03_Put.calls k1 ((rd_T72 l0 x5_1).f0) t340 t341 _ A9.out).mono ?_); rintro e w13 ⟨rfl, hb⟩; refine ⟨_, rfl, ?_⟩; replace HB := Aside0.mk (below_step (hS HB.out) hb); (try clear hb); (try clear hb2); (try clear hk); (try clear hi); have p342 : 0 ≤ (x5_1 : Int) := of_decide_eq_true (by first | (with_reducible assumption) | assumption); have q342 : x5_1 < (l0.length : Int) := of_decide_eq_true (by first | (with_reducible assumption) | assumption); obtain ⟨ad342, e342, hx342_0, hx342_1, hx342_2, hx342_3, hx342_4⟩ := at_T72 HR0.out x5_1 p342 q342; obtain rfl : ad339 = ad342 := (by injection e342); replace hx342_0 := (HB.out.cell (World.block_lt_of_cell? w _ hx342_0)).trans hx342_0; replace hx342_1 := (HB.out.cell (World.block_lt_of_cell? w _ hx342_1)).trans hx342_1; replace hx342_2 := (HB.out.cell (World.block_lt_of_cell? w _ hx342_2)).trans hx342_2; replace hx342_3 := (HB.out.cell (World.block_lt_of_cell? w _ hx342_3)).trans hx342_3; replace hx342_4 := (HB.out.cell (World.block_lt_of_cell? w _ hx342_4)).trans hx342_4; replace p342 := eq_true p342; replace q342 := eq_true q342) | ((with_reducible refine gate_callee (f := 80) rfl ?_); refine goesL_ (some 38) rfl rfl Try.func80 (by kernel_rfl) rfl #[.agg #[.int .i64 ((rd_T72 l0 x5_1).f1.f0), .int .i64 ((rd_T72 l0 x5_1).f1.f1), .int .i64 ((rd_T72 l0 x5_1).f1.f2), .string ((rd_T72 l0 x5_1).f1.f3)]] rfl (by (try simp only [List.map_toArray, List.map_cons, List.map_nil]); first | done | rfl | (simp only [List.length_drop, List.length_take]; rfl)) ?_; (with_reducible refine (rollcallref04_Put.calls k1 ((rd_T72 l0 x5_1).f1.f0) ((rd_T72 l0 x5_1).f1.f1) ((rd_T72 l0 x5_1).f1.f2) ((rd_T72 l0 x5_1).f1.f3) t343 t344 _ A10.out).mono ?_); rintro e w14 ⟨rfl, hb⟩; refine ⟨_, rfl, ?_⟩; replace HB := Aside0.mk (below_step (hS HB.out) hb); (try clear hb); (try clear hb2); (try clear hk); (try clear hi)))
        go_roundg k1
        case measure => have := HK1.out; omega
        case rel => exact ⟨((x4_1 ++ t340) ++ t343), (wrap64 (x5_1 + 1)), (by first | rfl | (simp; done) | (simp [*]; done)), (by first | rfl | (simp; done) | (simp [*]; done)), H', ⟨by have := HK1.out; omega⟩, ⟨by repeat (first | (with_reducible first | exact HB.out | apply below_alloc | apply pw_below_drewN | apply below_drew1) | exact HB.out)⟩⟩
       ·rw [if_neg c12] at H
        exact absurd H (by simp)
      ·rw [if_neg c11] at H
       exact absurd H (by simp)
     ·rw [if_neg c8] at H
      exact absurd H (by simp)
    ·rw [if_neg c7] at H
     have c7b0 : decide (x5_1 < (l0.length : Int)) = false := decide_eq_false c7
     clear c7
     simp only [Option.some.injEq, Prod.mk.injEq] at H
     obtain ⟨rfl, rfl⟩ := H
     go_wp2
     go_ret2
     exact ⟨by first | rfl | (simp [errW_none, errW_some] <;> rfl) | (simp [*, errW_none, errW_some] <;> rfl), by repeat (first | (with_reducible first | exact HB.out | apply below_alloc | apply pw_below_drewN | apply below_drew1) | exact HB.out)⟩
 ·replace c3 := Bool.eq_false_iff.mpr c3
  subst c3
  have H1 : (some ((⟨#[]⟩ : ByteArray), false)) = some (r1, r2) := by rw [if_neg (show ¬ (false = true) by decide)] at H; exact H
  clear H
  have H := H1
  clear H1
  simp only [Option.some.injEq, Prod.mk.injEq] at H
  obtain ⟨rfl, rfl⟩ := H
  go_enter Try.func59, Try.ntmps59
  go_wp2_with (first | ((with_reducible refine gate_callee (f := 27) rfl ?_); refine goesL_ (some 11) rfl rfl Try.func27 (by kernel_rfl) rfl #[.slice A0 l0.length c0] rfl (by (try simp only [List.map_toArray, List.map_cons, List.map_nil]); first | done | rfl | (simp only [List.length_drop, List.length_take]; rfl)) ?_; (with_reducible refine (rollcallref05_May.calls k _ _ l0 false _ ?side1 ?side2 A2.out).mono ?_); (case side1 => repeat (first | exact HR0.out | (with_reducible refine Kd.C_alloc ?_ _) | (with_reducible refine Kd.C_drewN ?_ _) | (with_reducible refine Kd.C_drew ?_))); (case side2 => exact HC0.out); rintro e w15 ⟨rfl, hb⟩; refine ⟨_, rfl, ?_⟩; replace HB := Aside0.mk (below_step (hS HB.out) hb); (try clear hb); (try clear hb2); (try clear hk); (try clear hi)))
  go_ret2
  exact ⟨by first | rfl | (simp [errW_none, errW_some] <;> rfl) | (simp [*, errW_none, errW_some] <;> rfl), by repeat (first | (with_reducible first | exact HB.out | apply below_alloc | apply pw_below_drewN | apply below_drew1) | exact HB.out)⟩

/-! ### rollcallref05_Sum: function 33 -/
def rollcallref05_Sum.l0 : Nat → ByteArray → Int → Int → Option (Int)
 | 0, _, _, _ => none
 | k + 1, x3, x5, x6 => if x6 < (x3.size : Int) then (if 0 ≤ x6 then (rollcallref05_Sum.l0 k x3 (IntKind.u64.wrap ((Go.bits .xor .u64 x5 (IntKind.u64.wrap (bt x3 x6))) * 1099511628211)) (wrap64 (x6 + 1))) else (none)) else (some x5)
def rollcallref05_Sum.f (k : Nat) (l0 : List (S72)) : Option (Int) := (rollcallref05_Put.f k l0).bind fun bt345 => (rollcallref05_Sum.l0 k bt345.1 14695981039346656037 0)
set_option maxHeartbeats 8000000 in
set_option maxRecDepth 100000 in
theorem rollcallref05_Sum.calls (k : Nat) (A0 : Option Addr) (c0 : Nat) (l0 : List (S72)) (r : Int) (w : World) (hr0 : Kd.C k72 w A0 l0.length l0) (hc0 : l0.length ≤ c0) (h : rollcallref05_Sum.f k l0 = some r) :
  Calls Try.prog 33 #[.slice A0 l0.length c0] w fun e w' => e = .returned (.int .u64 r) ∧ Below w.heap.size w w' := by
 have HR0 := Aside0.mk hr0
 have HC0 := Aside0.mk hc0
 clear hr0 hc0
 have HB := Aside0.mk (Below.refl w.heap.size w)
 have H : ((rollcallref05_Put.f k l0).bind fun bt345 => (rollcallref05_Sum.l0 k bt345.1 14695981039346656037 0)) = some r := h
 clear h
 replace H := Option.bind_eq_some_iff.mp H
 obtain ⟨⟨t345, t346⟩, A20, H⟩ := H
 replace H : (rollcallref05_Sum.l0 k t345 14695981039346656037 0) = some r := H
 have A2 := Aside0.mk A20
 clear A20
 have H' := Aside0.mk H
 clear H
 go_enter Try.func33, Try.ntmps33
 go_wp2_with (first | ((with_reducible refine gate_callee (f := 59) rfl ?_); refine goesL_ (some 9) rfl rfl Try.func59 (by kernel_rfl) rfl #[.slice A0 l0.length c0] rfl (by (try simp only [List.map_toArray, List.map_cons, List.map_nil]); first | done | rfl | (simp only [List.length_drop, List.length_take]; rfl)) ?_; (with_reducible refine (rollcallref05_Put.calls k _ _ l0 t345 t346 _ ?side1 ?side2 A2.out).mono ?_); (case side1 => repeat (first | exact HR0.out | (with_reducible refine Kd.C_alloc ?_ _) | (with_reducible refine Kd.C_drewN ?_ _) | (with_reducible refine Kd.C_drew ?_))); (case side2 => exact HC0.out); rintro e w3 ⟨rfl, hb⟩; refine ⟨_, rfl, ?_⟩; replace HB := Aside0.mk (below_step (hS HB.out) hb); (try clear hb); (try clear hb2); (try clear hk); (try clear hi)))
 go_loopg [5, 6] k (fun kq v5 v6 w' => ∃ (x5_1 : Int) (x6_1 : Int), v5 = .int .u64 x5_1 ∧ v6 = .int .i64 x6_1 ∧ Aside0 (rollcallref05_Sum.l0 kq t345 x5_1 x6_1 = some r) ∧ Aside0 (kq ≤ k) ∧ Aside0 (Below w.heap.size w w'))
 case atStart => exact ⟨(14695981039346656037), (0), (by first | rfl | (simp; done) | (simp [*]; done)), (by first | rfl | (simp; done) | (simp [*]; done)), H', ⟨Nat.le_refl _⟩, ⟨by repeat (first | (with_reducible first | exact HB.out | apply below_alloc | apply pw_below_drewN | apply below_drew1) | exact HB.out)⟩⟩
 case round =>
  clear H'
  try clear p2
  try clear c3
  obtain ⟨x5_1, x6_1, rfl, rfl, HA, HK1, HB⟩ := hrel
  cases gk with
  | zero => exact absurd HA.out (by simp [rollcallref05_Sum.l0])
  | succ k1 =>
   have H := HA.out
   clear HA
   simp only [rollcallref05_Sum.l0] at H
   by_cases c4 : x6_1 < (t345.size : Int)
   ·rw [if_pos c4] at H
    have c4b0 : decide (x6_1 < (t345.size : Int)) = true := decide_eq_true c4
    clear c4
    by_cases c5 : 0 ≤ x6_1
    ·rw [if_pos c5] at H
     have c5b0 : decide (0 ≤ x6_1) = true := decide_eq_true c5
     clear c5
     have H' := Aside0.mk H
     clear H
     have p6 : 0 ≤ (x6_1 : Int) := of_decide_eq_true (by first | (with_reducible assumption) | assumption)
     have q6 : x6_1 < (t345.size : Int) := of_decide_eq_true (by first | (with_reducible assumption) | assumption)
     have hx6 := bt_at t345 x6_1
     replace p6 := eq_true p6
     replace q6 := eq_true q6
     go_wp2
     go_roundg k1
     case measure => have := HK1.out; omega
     case rel => exact ⟨(IntKind.u64.wrap ((Go.bits .xor .u64 x5_1 (IntKind.u64.wrap (bt t345 x6_1))) * 1099511628211)), (wrap64 (x6_1 + 1)), (by first | rfl | (simp; done) | (simp [*]; done)), (by first | rfl | (simp; done) | (simp [*]; done)), H', ⟨by have := HK1.out; omega⟩, ⟨by repeat (first | (with_reducible first | exact HB.out | apply below_alloc | apply pw_below_drewN | apply below_drew1) | exact HB.out)⟩⟩
    ·rw [if_neg c5] at H
     exact absurd H (by simp)
   ·rw [if_neg c4] at H
    have c4b0 : decide (x6_1 < (t345.size : Int)) = false := decide_eq_false c4
    clear c4
    obtain rfl := Option.some.inj H
    go_wp2
    go_ret
    exact ⟨by first | rfl | (simp [errW_none, errW_some] <;> rfl) | (simp [*, errW_none, errW_some] <;> rfl), by repeat (first | (with_reducible first | exact HB.out | apply below_alloc | apply pw_below_drewN | apply below_drew1) | exact HB.out)⟩

/-! ### rollcallref16_Level: function 29 -/
def rollcallref16_Level.j0 : Nat → Int → Bool → Int → Int → Int → Int → Int → Int → Option (Int)
 | 0, _, _, _, _, _, _, _, _ => none
 | k + 1, x2, x15, x348000, x348001, x348002, x348003, x349000, x349001 => if x15 = true then (some 0) else (if x2 ≤ x349001 then (some x349000) else (some (mn x348001 (wrap64 (x349000 + (wrap64 ((wrap64 (x2 - x349001)) * x348002)))))))
def rollcallref16_Level.f (k : Nat) (a0_0 : Int) (a0_1 : Int) (a0_2 : Int) (a0_3 : Int) (a1_0 : Int) (a1_1 : Int) (a2 : Int) : Option (Int) := (rollcallref16_One.f a0_0 a0_1 a0_2 a0_3 a1_0 a1_1).bind fun t349 => (if t349 = true then ((rollcallref16_Time.f a2).bind fun t350 => (rollcallref16_Level.j0 k a2 (!t350) a0_0 a0_1 a0_2 a0_3 a1_0 a1_1)) else (rollcallref16_Level.j0 k a2 true a0_0 a0_1 a0_2 a0_3 a1_0 a1_1))
set_option maxHeartbeats 8000000 in
set_option maxRecDepth 100000 in
theorem rollcallref16_Level.calls (k : Nat) (a0_0 : Int) (a0_1 : Int) (a0_2 : Int) (a0_3 : Int) (a1_0 : Int) (a1_1 : Int) (a2 : Int) (r : Int) (w : World) (h : rollcallref16_Level.f k a0_0 a0_1 a0_2 a0_3 a1_0 a1_1 a2 = some r) :
  Calls Try.prog 29 #[.agg #[.int .i64 a0_0, .int .i64 a0_1, .int .i64 a0_2, .int .i64 a0_3], .agg #[.int .i64 a1_0, .int .i64 a1_1], .int .i64 a2] w fun e w' => e = .returned (.int .i64 r) ∧ Below w.heap.size w w' := by
 have hu23 := Try.underlying23
 have hu28 := Try.underlying28
 have HB := Aside0.mk (Below.refl w.heap.size w)
 have H : ((rollcallref16_One.f a0_0 a0_1 a0_2 a0_3 a1_0 a1_1).bind fun t349 => (if t349 = true then ((rollcallref16_Time.f a2).bind fun t350 => (rollcallref16_Level.j0 k a2 (!t350) a0_0 a0_1 a0_2 a0_3 a1_0 a1_1)) else (rollcallref16_Level.j0 k a2 true a0_0 a0_1 a0_2 a0_3 a1_0 a1_1))) = some r := h
 clear h
 have HC4 := Aside0.mk H
 clear H
 go_enter Try.func29, Try.ntmps29
 go_upto_region 1 with (first | ((with_reducible refine gate_dst (N := 3) rfl ?_); refine box_event ?hg (N := 3) ?hd (cs := #[.int .i64 a0_0, .int .i64 a0_1, .int .i64 a0_2, .int .i64 a0_3]) (t := 23) ?hr ?_; (case hd => rfl); (case hg => rfl); (case hr => first | (go_simp; done) | (go_simp; rfl)); intro gb347 hg w5 hbox hb; have BK347 := Aside0.mk (hbox); have GW347 := Aside0.mk ((by rw [hg]; exact (below_size (hS HB.out)) : w.heap.size ≤ gb347)); have GE347 := Aside0.mk ((by rw [hg]; exact (below_size (hS HB.out)) : w.heap.size ≤ gb347)); replace HB := Aside0.mk (below_step (hS HB.out) hb); clear hb hbox hg) | ((with_reducible refine gate_dst (N := 4) rfl ?_); refine box_event ?hg (N := 4) ?hd (cs := #[.int .i64 a1_0, .int .i64 a1_1]) (t := 28) ?hr ?_; (case hd => rfl); (case hg => rfl); (case hr => first | (go_simp; done) | (go_simp; rfl)); intro gb348 hg w6 hbox hb; have BK348 := Aside0.mk (hbox); have GW348 := Aside0.mk ((by rw [hg]; exact (below_size (hS HB.out)) : w.heap.size ≤ gb348)); have GE348 := Aside0.mk ((by rw [hg]; exact (below_size (hS HB.out)) : w.heap.size ≤ gb348)); replace HB := Aside0.mk (below_step (hS HB.out) hb); have NB347_348 := Aside0.mk ((by rw [hg]; exact Nat.ne_of_lt (blk_lt (bS BK347.out)) : gb347 ≠ gb348)); have NB348_347 := Aside0.mk ((by rw [hg]; exact Nat.ne_of_gt (blk_lt (bS BK347.out)) : gb348 ≠ gb347)); replace BK347 := Aside0.mk (blk_below (bS BK347.out) hb); clear hb hbox hg))
 (try simp only [Act.put, List.setIfInBounds_toArray, List.set_cons_zero, List.set_cons_succ])
 go_cut [15] (fun v15 wc => ∃ (kq : Nat) (x15_3 : Bool), v15 = .bool x15_3 ∧ Aside0 (rollcallref16_Level.j0 kq a2 x15_3 a0_0 a0_1 a0_2 a0_3 a1_0 a1_1 = some r) ∧ Aside0 (kq ≤ k) ∧ Aside0 (wc.heap[gb347]? = some (.cells #[.int .i64 a0_0, .int .i64 a0_1, .int .i64 a0_2, .int .i64 a0_3] 23 (0, 0))) ∧ Aside0 (wc.heap[gb348]? = some (.cells #[.int .i64 a1_0, .int .i64 a1_1] 28 (0, 0))) ∧ Aside0 (Below w.heap.size w wc))
 case first =>
  have H := HC4.out
  clear HC4
  replace H := Option.bind_eq_some_iff.mp H
  obtain ⟨t349, A70, H⟩ := H
  replace H : (if t349 = true then ((rollcallref16_Time.f a2).bind fun t350 => (rollcallref16_Level.j0 k a2 (!t350) a0_0 a0_1 a0_2 a0_3 a1_0 a1_1)) else (rollcallref16_Level.j0 k a2 true a0_0 a0_1 a0_2 a0_3 a1_0 a1_1)) = some r := H
  have A7 := Aside0.mk A70
  clear A70
  by_cases c8 : t349 = true
  ·subst c8
   have H1 : ((rollcallref16_Time.f a2).bind fun t350 => (rollcallref16_Level.j0 k a2 (!t350) a0_0 a0_1 a0_2 a0_3 a1_0 a1_1)) = some r := by rw [if_pos rfl] at H; exact H
   clear H
   have H := H1
   clear H1
   replace H := Option.bind_eq_some_iff.mp H
   obtain ⟨t350, A90, H⟩ := H
   replace H : (rollcallref16_Level.j0 k a2 (!t350) a0_0 a0_1 a0_2 a0_3 a1_0 a1_1) = some r := H
   have A9 := Aside0.mk A90
   clear A90
   have H' := Aside0.mk H
   clear H
   have hnb10 := NB347_348.out
   have hnc10 := NB348_347.out
   have hcz11_0 : w6.cell? ⟨gb347, 0, none⟩ = some (.int .i64 a0_0) := (blk_cell BK347.out 0).trans rfl
   have hcz11_1 : w6.cell? ⟨gb347, 1, none⟩ = some (.int .i64 a0_1) := (blk_cell BK347.out 1).trans rfl
   have hcz11_2 : w6.cell? ⟨gb347, 2, none⟩ = some (.int .i64 a0_2) := (blk_cell BK347.out 2).trans rfl
   have hcz11_3 : w6.cell? ⟨gb347, 3, none⟩ = some (.int .i64 a0_3) := (blk_cell BK347.out 3).trans rfl
   have hfz11_0 := blk_frozen BK347.out 0
   have hfz11_1 := blk_frozen BK347.out 1
   have hfz11_2 := blk_frozen BK347.out 2
   have hfz11_3 := blk_frozen BK347.out 3
   have hcz12_0 : w6.cell? ⟨gb348, 0, none⟩ = some (.int .i64 a1_0) := (blk_cell BK348.out 0).trans rfl
   have hcz12_1 : w6.cell? ⟨gb348, 1, none⟩ = some (.int .i64 a1_1) := (blk_cell BK348.out 1).trans rfl
   have hfz12_0 := blk_frozen BK348.out 0
   have hfz12_1 := blk_frozen BK348.out 1
   go_wp2_with (first | ((with_reducible refine gate_callee (f := 44) rfl ?_); refine goesL_ (some 9) rfl rfl Try.func44 (by kernel_rfl) rfl #[.agg #[.int .i64 a0_0, .int .i64 a0_1, .int .i64 a0_2, .int .i64 a0_3], .agg #[.int .i64 a1_0, .int .i64 a1_1]] rfl (by (try simp only [List.map_toArray, List.map_cons, List.map_nil]); first | done | rfl | (simp only [List.length_drop, List.length_take]; rfl)) ?_; (with_reducible refine (rollcallref16_One.calls a0_0 a0_1 a0_2 a0_3 a1_0 a1_1 true _ A7.out).mono ?_); rintro e w13 ⟨rfl, hb⟩; refine ⟨_, rfl, ?_⟩; replace BK347 := Aside0.mk (blk_below (bS BK347.out) hb); replace BK348 := Aside0.mk (blk_below (bS BK348.out) hb); replace HB := Aside0.mk (below_step (hS HB.out) hb); (try clear hb); (try clear hb2); (try clear hk); (try clear hi)) | (go_at_call 28; (with_reducible refine (rollcallref16_Time.calls a2 t350 _ A9.out).mono ?_); rintro e w' ⟨rfl, ⟨nd, rfl⟩⟩))
   go_meet
   case rel => exact ⟨_, (!t350), (by first | rfl | (simp; done) | (simp [*]; done)), H', ⟨by first | omega | exact Nat.le_refl _⟩, ⟨bS BK347.out⟩, ⟨bS BK348.out⟩, ⟨by repeat (first | (with_reducible first | exact HB.out | apply below_alloc | apply pw_below_drewN | apply below_drew1 | refine below_set ?_ GE347.out | refine below_set ?_ GE348.out) | exact HB.out)⟩⟩
  ·replace c8 := Bool.eq_false_iff.mpr c8
   subst c8
   have H1 : (rollcallref16_Level.j0 k a2 true a0_0 a0_1 a0_2 a0_3 a1_0 a1_1) = some r := by rw [if_neg (show ¬ (false = true) by decide)] at H; exact H
   clear H
   have H := H1
   clear H1
   have H' := Aside0.mk H
   clear H
   have hnb14 := NB347_348.out
   have hnc14 := NB348_347.out
   have hcz15_0 : w6.cell? ⟨gb347, 0, none⟩ = some (.int .i64 a0_0) := (blk_cell BK347.out 0).trans rfl
   have hcz15_1 : w6.cell? ⟨gb347, 1, none⟩ = some (.int .i64 a0_1) := (blk_cell BK347.out 1).trans rfl
   have hcz15_2 : w6.cell? ⟨gb347, 2, none⟩ = some (.int .i64 a0_2) := (blk_cell BK347.out 2).trans rfl
   have hcz15_3 : w6.cell? ⟨gb347, 3, none⟩ = some (.int .i64 a0_3) := (blk_cell BK347.out 3).trans rfl
   have hfz15_0 := blk_frozen BK347.out 0
   have hfz15_1 := blk_frozen BK347.out 1
   have hfz15_2 := blk_frozen BK347.out 2
   have hfz15_3 := blk_frozen BK347.out 3
   have hcz16_0 : w6.cell? ⟨gb348, 0, none⟩ = some (.int .i64 a1_0) := (blk_cell BK348.out 0).trans rfl
   have hcz16_1 : w6.cell? ⟨gb348, 1, none⟩ = some (.int .i64 a1_1) := (blk_cell BK348.out 1).trans rfl
   have hfz16_0 := blk_frozen BK348.out 0
   have hfz16_1 := blk_frozen BK348.out 1
   go_wp2_with (first | ((with_reducible refine gate_callee (f := 44) rfl ?_); refine goesL_ (some 9) rfl rfl Try.func44 (by kernel_rfl) rfl #[.agg #[.int .i64 a0_0, .int .i64 a0_1, .int .i64 a0_2, .int .i64 a0_3], .agg #[.int .i64 a1_0, .int .i64 a1_1]] rfl (by (try simp only [List.map_toArray, List.map_cons, List.map_nil]); first | done | rfl | (simp only [List.length_drop, List.length_take]; rfl)) ?_; (with_reducible refine (rollcallref16_One.calls a0_0 a0_1 a0_2 a0_3 a1_0 a1_1 false _ A7.out).mono ?_); rintro e w17 ⟨rfl, hb⟩; refine ⟨_, rfl, ?_⟩; replace BK347 := Aside0.mk (blk_below (bS BK347.out) hb); replace BK348 := Aside0.mk (blk_below (bS BK348.out) hb); replace HB := Aside0.mk (below_step (hS HB.out) hb); (try clear hb); (try clear hb2); (try clear hk); (try clear hi)))
   go_meet
   case rel => exact ⟨_, (true), (by first | rfl | (simp; done) | (simp [*]; done)), H', ⟨by first | omega | exact Nat.le_refl _⟩, ⟨bS BK347.out⟩, ⟨bS BK348.out⟩, ⟨by repeat (first | (with_reducible first | exact HB.out | apply below_alloc | apply pw_below_drewN | apply below_drew1 | refine below_set ?_ GE347.out | refine below_set ?_ GE348.out) | exact HB.out)⟩⟩
 case rest =>
  clear HC4
  try clear c1
  try clear c2
  try clear p2
  try clear c4
  try clear c8
  try clear c10
  try clear c14
  try clear hcz11_0
  try clear hcz11_1
  try clear hcz11_2
  try clear hcz11_3
  try clear hcz12_0
  try clear hcz12_1
  try clear hcz15_0
  try clear hcz15_1
  try clear hcz15_2
  try clear hcz15_3
  try clear hcz16_0
  try clear hcz16_1
  try clear hfz11_0
  try clear hfz11_1
  try clear hfz11_2
  try clear hfz11_3
  try clear hfz12_0
  try clear hfz12_1
  try clear hfz15_0
  try clear hfz15_1
  try clear hfz15_2
  try clear hfz15_3
  try clear hfz16_0
  try clear hfz16_1
  obtain ⟨kq, x15_3, rfl, HA, HJ3, BK347, BK348, HB⟩ := hcut
  cases kq with
  | zero => exact absurd HA.out (by simp [rollcallref16_Level.j0])
  | succ kj3 =>
   have H := HA.out
   clear HA
   simp only [rollcallref16_Level.j0] at H
   by_cases c18 : x15_3 = true
   ·subst c18
    have H1 : (some 0) = some r := by rw [if_pos rfl] at H; exact H
    clear H
    have H := H1
    clear H1
    obtain rfl := Option.some.inj H
    go_wp2
    go_ret
    exact ⟨by first | rfl | (simp [errW_none, errW_some] <;> rfl) | (simp [*, errW_none, errW_some] <;> rfl), by repeat (first | (with_reducible first | exact HB.out | apply below_alloc | apply pw_below_drewN | apply below_drew1 | refine below_set ?_ GE347.out | refine below_set ?_ GE348.out) | exact HB.out)⟩
   ·replace c18 := Bool.eq_false_iff.mpr c18
    subst c18
    have H1 : (if a2 ≤ a1_1 then (some a1_0) else (some (mn a0_1 (wrap64 (a1_0 + (wrap64 ((wrap64 (a2 - a1_1)) * a0_2))))))) = some r := by rw [if_neg (show ¬ (false = true) by decide)] at H; exact H
    clear H
    have H := H1
    clear H1
    by_cases c19 : a2 ≤ a1_1
    ·rw [if_pos c19] at H
     have c19b0 : decide (a2 ≤ a1_1) = true := decide_eq_true c19
     clear c19
     obtain rfl := Option.some.inj H
     have hnb20 := NB348_347.out
     have hnc20 := NB347_348.out
     have hcz21_0 : wc.cell? ⟨gb348, 0, none⟩ = some (.int .i64 a1_0) := (blk_cell BK348.out 0).trans rfl
     have hcz21_1 : wc.cell? ⟨gb348, 1, none⟩ = some (.int .i64 a1_1) := (blk_cell BK348.out 1).trans rfl
     have hfz21_0 := blk_frozen BK348.out 0
     have hfz21_1 := blk_frozen BK348.out 1
     go_wp2
     go_ret
     exact ⟨by first | rfl | (simp [errW_none, errW_some] <;> rfl) | (simp [*, errW_none, errW_some] <;> rfl), by repeat (first | (with_reducible first | exact HB.out | apply below_alloc | apply pw_below_drewN | apply below_drew1 | refine below_set ?_ GE347.out | refine below_set ?_ GE348.out) | exact HB.out)⟩
    ·rw [if_neg c19] at H
     have c19b0 : decide (a2 ≤ a1_1) = false := decide_eq_false c19
     clear c19
     obtain ⟨ji22, hji22⟩ : ∃ j_ : Int, (mn a0_1 (wrap64 (a1_0 + (wrap64 ((wrap64 (a2 - a1_1)) * a0_2))))) = j_ := ⟨_, rfl⟩
     replace H : (some ji22) = some r := by first | (rw [hji22] at H; exact H) | (simp only [hji22] at H ⊢; exact H)
     have hji22_ : (if (wrap64 (a1_0 + (wrap64 ((wrap64 (a2 - a1_1)) * a0_2)))) < a0_1 then (wrap64 (a1_0 + (wrap64 ((wrap64 (a2 - a1_1)) * a0_2)))) else a0_1) = ji22 := hji22
     obtain rfl := Option.some.inj H
     have hnb23 := NB348_347.out
     have hnc23 := NB347_348.out
     have hcz24_0 : wc.cell? ⟨gb348, 0, none⟩ = some (.int .i64 a1_0) := (blk_cell BK348.out 0).trans rfl
     have hcz24_1 : wc.cell? ⟨gb348, 1, none⟩ = some (.int .i64 a1_1) := (blk_cell BK348.out 1).trans rfl
     have hfz24_0 := blk_frozen BK348.out 0
     have hfz24_1 := blk_frozen BK348.out 1
     have hcz25_0 : wc.cell? ⟨gb347, 0, none⟩ = some (.int .i64 a0_0) := (blk_cell BK347.out 0).trans rfl
     have hcz25_1 : wc.cell? ⟨gb347, 1, none⟩ = some (.int .i64 a0_1) := (blk_cell BK347.out 1).trans rfl
     have hcz25_2 : wc.cell? ⟨gb347, 2, none⟩ = some (.int .i64 a0_2) := (blk_cell BK347.out 2).trans rfl
     have hcz25_3 : wc.cell? ⟨gb347, 3, none⟩ = some (.int .i64 a0_3) := (blk_cell BK347.out 3).trans rfl
     have hfz25_0 := blk_frozen BK347.out 0
     have hfz25_1 := blk_frozen BK347.out 1
     have hfz25_2 := blk_frozen BK347.out 2
     have hfz25_3 := blk_frozen BK347.out 3
     go_wp2
     go_ret
     exact ⟨by first | rfl | (simp [errW_none, errW_some] <;> rfl) | (simp only [← hji22]; first | rfl | (simp [errW_none, errW_some] <;> rfl)) | (simp [*, errW_none, errW_some] <;> rfl), by repeat (first | (with_reducible first | exact HB.out | apply below_alloc | apply pw_below_drewN | apply below_drew1 | refine below_set ?_ GE347.out | refine below_set ?_ GE348.out) | exact HB.out)⟩

/-! ### rollcallref16_Take: function 53 -/
def rollcallref16_Take.j0 : Nat → Int → Bool → Int → Int → Int → Int → Int → Int → Option (Int × Int × Bool)
 | 0, _, _, _, _, _, _, _, _ => none
 | k + 1, x2, x18, x352000, x352001, x352002, x352003, x353000, x353001 => if x18 = true then (some (x353000, x353001, false)) else ((rollcallref16_Level.f k x352000 x352001 x352002 x352003 x353000 x353001 x2).bind fun t356 => (if t356 = 0 then (some (0, mx x2 x353001, false)) else (some (wrap64 (t356 - 1), mx x2 x353001, true))))
def rollcallref16_Take.f (k : Nat) (a0_0 : Int) (a0_1 : Int) (a0_2 : Int) (a0_3 : Int) (a1_0 : Int) (a1_1 : Int) (a2 : Int) : Option (Int × Int × Bool) := (rollcallref16_One.f a0_0 a0_1 a0_2 a0_3 a1_0 a1_1).bind fun t354 => (if t354 = true then ((rollcallref16_Time.f a2).bind fun t355 => (rollcallref16_Take.j0 k a2 (!t355) a0_0 a0_1 a0_2 a0_3 a1_0 a1_1)) else (rollcallref16_Take.j0 k a2 true a0_0 a0_1 a0_2 a0_3 a1_0 a1_1))
set_option maxHeartbeats 8000000 in
set_option maxRecDepth 100000 in
theorem rollcallref16_Take.calls (k : Nat) (a0_0 : Int) (a0_1 : Int) (a0_2 : Int) (a0_3 : Int) (a1_0 : Int) (a1_1 : Int) (a2 : Int) (r1 : Int) (r2 : Int) (r3 : Bool) (w : World) (h : rollcallref16_Take.f k a0_0 a0_1 a0_2 a0_3 a1_0 a1_1 a2 = some (r1, r2, r3)) :
  Calls Try.prog 53 #[.agg #[.int .i64 a0_0, .int .i64 a0_1, .int .i64 a0_2, .int .i64 a0_3], .agg #[.int .i64 a1_0, .int .i64 a1_1], .int .i64 a2] w fun e w' => e = .returned (.tuple #[.agg #[.int .i64 r1, .int .i64 r2], .bool r3]) ∧ Below w.heap.size w w' := by
 have hu23 := Try.underlying23
 have hu28 := Try.underlying28
 have HB := Aside0.mk (Below.refl w.heap.size w)
 have H : ((rollcallref16_One.f a0_0 a0_1 a0_2 a0_3 a1_0 a1_1).bind fun t354 => (if t354 = true then ((rollcallref16_Time.f a2).bind fun t355 => (rollcallref16_Take.j0 k a2 (!t355) a0_0 a0_1 a0_2 a0_3 a1_0 a1_1)) else (rollcallref16_Take.j0 k a2 true a0_0 a0_1 a0_2 a0_3 a1_0 a1_1))) = some (r1, r2, r3) := h
 clear h
 have HC4 := Aside0.mk H
 clear H
 go_enter Try.func53, Try.ntmps53
 go_upto_region 1 with (first | ((with_reducible refine gate_dst (N := 3) rfl ?_); refine box_event ?hg (N := 3) ?hd (cs := #[.int .i64 a0_0, .int .i64 a0_1, .int .i64 a0_2, .int .i64 a0_3]) (t := 23) ?hr ?_; (case hd => rfl); (case hg => rfl); (case hr => first | (go_simp; done) | (go_simp; rfl)); intro gb351 hg w5 hbox hb; have BK351 := Aside0.mk (hbox); have GW351 := Aside0.mk ((by rw [hg]; exact (below_size (hS HB.out)) : w.heap.size ≤ gb351)); have GE351 := Aside0.mk ((by rw [hg]; exact (below_size (hS HB.out)) : w.heap.size ≤ gb351)); replace HB := Aside0.mk (below_step (hS HB.out) hb); clear hb hbox hg) | ((with_reducible refine gate_dst (N := 4) rfl ?_); refine box_event ?hg (N := 4) ?hd (cs := #[.int .i64 a1_0, .int .i64 a1_1]) (t := 28) ?hr ?_; (case hd => rfl); (case hg => rfl); (case hr => first | (go_simp; done) | (go_simp; rfl)); intro gb352 hg w6 hbox hb; have BK352 := Aside0.mk (hbox); have GW352 := Aside0.mk ((by rw [hg]; exact (below_size (hS HB.out)) : w.heap.size ≤ gb352)); have GE352 := Aside0.mk ((by rw [hg]; exact (below_size (hS HB.out)) : w.heap.size ≤ gb352)); replace HB := Aside0.mk (below_step (hS HB.out) hb); have NB351_352 := Aside0.mk ((by rw [hg]; exact Nat.ne_of_lt (blk_lt (bS BK351.out)) : gb351 ≠ gb352)); have NB352_351 := Aside0.mk ((by rw [hg]; exact Nat.ne_of_gt (blk_lt (bS BK351.out)) : gb352 ≠ gb351)); replace BK351 := Aside0.mk (blk_below (bS BK351.out) hb); clear hb hbox hg) | ((with_reducible refine gate_dst (N := 6) rfl ?_); refine box_event ?hg (N := 6) ?hd (cs := #[.int .i64 0, .int .i64 0]) (t := 28) ?hr ?_; (case hd => rfl); (case hg => rfl); (case hr => first | (go_simp; done) | (go_simp; rfl)); intro gb353 hg w7 hbox hb; have BK353 := Aside0.mk (hbox); have GW353 := Aside0.mk ((by rw [hg]; exact (below_size (hS HB.out)) : w.heap.size ≤ gb353)); have GE353 := Aside0.mk ((by rw [hg]; exact (below_size (hS HB.out)) : w.heap.size ≤ gb353)); replace HB := Aside0.mk (below_step (hS HB.out) hb); have NB351_353 := Aside0.mk ((by rw [hg]; exact Nat.ne_of_lt (blk_lt (bS BK351.out)) : gb351 ≠ gb353)); have NB353_351 := Aside0.mk ((by rw [hg]; exact Nat.ne_of_gt (blk_lt (bS BK351.out)) : gb353 ≠ gb351)); replace BK351 := Aside0.mk (blk_below (bS BK351.out) hb); have NB352_353 := Aside0.mk ((by rw [hg]; exact Nat.ne_of_lt (blk_lt (bS BK352.out)) : gb352 ≠ gb353)); have NB353_352 := Aside0.mk ((by rw [hg]; exact Nat.ne_of_gt (blk_lt (bS BK352.out)) : gb353 ≠ gb352)); replace BK352 := Aside0.mk (blk_below (bS BK352.out) hb); clear hb hbox hg))
 (try simp only [Act.put, List.setIfInBounds_toArray, List.set_cons_zero, List.set_cons_succ])
 go_cut [18] (fun v18 wc => ∃ (kq : Nat) (x18_3 : Bool), v18 = .bool x18_3 ∧ Aside0 (rollcallref16_Take.j0 kq a2 x18_3 a0_0 a0_1 a0_2 a0_3 a1_0 a1_1 = some (r1, r2, r3)) ∧ Aside0 (kq ≤ k) ∧ Aside0 (wc.heap[gb351]? = some (.cells #[.int .i64 a0_0, .int .i64 a0_1, .int .i64 a0_2, .int .i64 a0_3] 23 (0, 0))) ∧ Aside0 (wc.heap[gb352]? = some (.cells #[.int .i64 a1_0, .int .i64 a1_1] 28 (0, 0))) ∧ Aside0 (wc.heap[gb353]? = some (.cells #[.int .i64 0, .int .i64 0] 28 (0, 0))) ∧ Aside0 (Below w.heap.size w wc))
 case first =>
  have H := HC4.out
  clear HC4
  replace H := Option.bind_eq_some_iff.mp H
  obtain ⟨t354, A80, H⟩ := H
  replace H : (if t354 = true then ((rollcallref16_Time.f a2).bind fun t355 => (rollcallref16_Take.j0 k a2 (!t355) a0_0 a0_1 a0_2 a0_3 a1_0 a1_1)) else (rollcallref16_Take.j0 k a2 true a0_0 a0_1 a0_2 a0_3 a1_0 a1_1)) = some (r1, r2, r3) := H
  have A8 := Aside0.mk A80
  clear A80
  by_cases c9 : t354 = true
  ·subst c9
   have H1 : ((rollcallref16_Time.f a2).bind fun t355 => (rollcallref16_Take.j0 k a2 (!t355) a0_0 a0_1 a0_2 a0_3 a1_0 a1_1)) = some (r1, r2, r3) := by rw [if_pos rfl] at H; exact H
   clear H
   have H := H1
   clear H1
   replace H := Option.bind_eq_some_iff.mp H
   obtain ⟨t355, A100, H⟩ := H
   replace H : (rollcallref16_Take.j0 k a2 (!t355) a0_0 a0_1 a0_2 a0_3 a1_0 a1_1) = some (r1, r2, r3) := H
   have A10 := Aside0.mk A100
   clear A100
   have H' := Aside0.mk H
   clear H
   have hnb11 := NB351_352.out
   have hnc11 := NB352_351.out
   have hnb12 := NB351_353.out
   have hnc12 := NB353_351.out
   have hcz13_0 : w7.cell? ⟨gb351, 0, none⟩ = some (.int .i64 a0_0) := (blk_cell BK351.out 0).trans rfl
   have hcz13_1 : w7.cell? ⟨gb351, 1, none⟩ = some (.int .i64 a0_1) := (blk_cell BK351.out 1).trans rfl
   have hcz13_2 : w7.cell? ⟨gb351, 2, none⟩ = some (.int .i64 a0_2) := (blk_cell BK351.out 2).trans rfl
   have hcz13_3 : w7.cell? ⟨gb351, 3, none⟩ = some (.int .i64 a0_3) := (blk_cell BK351.out 3).trans rfl
   have hfz13_0 := blk_frozen BK351.out 0
   have hfz13_1 := blk_frozen BK351.out 1
   have hfz13_2 := blk_frozen BK351.out 2
   have hfz13_3 := blk_frozen BK351.out 3
   have hnb14 := NB352_353.out
   have hnc14 := NB353_352.out
   have hcz15_0 : w7.cell? ⟨gb352, 0, none⟩ = some (.int .i64 a1_0) := (blk_cell BK352.out 0).trans rfl
   have hcz15_1 : w7.cell? ⟨gb352, 1, none⟩ = some (.int .i64 a1_1) := (blk_cell BK352.out 1).trans rfl
   have hfz15_0 := blk_frozen BK352.out 0
   have hfz15_1 := blk_frozen BK352.out 1
   go_wp2_with (first | ((with_reducible refine gate_callee (f := 44) rfl ?_); refine goesL_ (some 12) rfl rfl Try.func44 (by kernel_rfl) rfl #[.agg #[.int .i64 a0_0, .int .i64 a0_1, .int .i64 a0_2, .int .i64 a0_3], .agg #[.int .i64 a1_0, .int .i64 a1_1]] rfl (by (try simp only [List.map_toArray, List.map_cons, List.map_nil]); first | done | rfl | (simp only [List.length_drop, List.length_take]; rfl)) ?_; (with_reducible refine (rollcallref16_One.calls a0_0 a0_1 a0_2 a0_3 a1_0 a1_1 true _ A8.out).mono ?_); rintro e w16 ⟨rfl, hb⟩; refine ⟨_, rfl, ?_⟩; replace BK351 := Aside0.mk (blk_below (bS BK351.out) hb); replace BK352 := Aside0.mk (blk_below (bS BK352.out) hb); replace BK353 := Aside0.mk (blk_below (bS BK353.out) hb); replace HB := Aside0.mk (below_step (hS HB.out) hb); (try clear hb); (try clear hb2); (try clear hk); (try clear hi)) | (go_at_call 28; (with_reducible refine (rollcallref16_Time.calls a2 t355 _ A10.out).mono ?_); rintro e w' ⟨rfl, ⟨nd, rfl⟩⟩))
   go_meet
   case rel => exact ⟨_, (!t355), (by first | rfl | (simp; done) | (simp [*]; done)), H', ⟨by first | omega | exact Nat.le_refl _⟩, ⟨bS BK351.out⟩, ⟨bS BK352.out⟩, ⟨bS BK353.out⟩, ⟨by repeat (first | (with_reducible first | exact HB.out | apply below_alloc | apply pw_below_drewN | apply below_drew1 | refine below_set ?_ GE351.out | refine below_set ?_ GE352.out | refine below_set ?_ GE353.out) | exact HB.out)⟩⟩
  ·replace c9 := Bool.eq_false_iff.mpr c9
   subst c9
   have H1 : (rollcallref16_Take.j0 k a2 true a0_0 a0_1 a0_2 a0_3 a1_0 a1_1) = some (r1, r2, r3) := by rw [if_neg (show ¬ (false = true) by decide)] at H; exact H
   clear H
   have H := H1
   clear H1
   have H' := Aside0.mk H
   clear H
   have hnb17 := NB351_352.out
   have hnc17 := NB352_351.out
   have hnb18 := NB351_353.out
   have hnc18 := NB353_351.out
   have hcz19_0 : w7.cell? ⟨gb351, 0, none⟩ = some (.int .i64 a0_0) := (blk_cell BK351.out 0).trans rfl
   have hcz19_1 : w7.cell? ⟨gb351, 1, none⟩ = some (.int .i64 a0_1) := (blk_cell BK351.out 1).trans rfl
   have hcz19_2 : w7.cell? ⟨gb351, 2, none⟩ = some (.int .i64 a0_2) := (blk_cell BK351.out 2).trans rfl
   have hcz19_3 : w7.cell? ⟨gb351, 3, none⟩ = some (.int .i64 a0_3) := (blk_cell BK351.out 3).trans rfl
   have hfz19_0 := blk_frozen BK351.out 0
   have hfz19_1 := blk_frozen BK351.out 1
   have hfz19_2 := blk_frozen BK351.out 2
   have hfz19_3 := blk_frozen BK351.out 3
   have hnb20 := NB352_353.out
   have hnc20 := NB353_352.out
   have hcz21_0 : w7.cell? ⟨gb352, 0, none⟩ = some (.int .i64 a1_0) := (blk_cell BK352.out 0).trans rfl
   have hcz21_1 : w7.cell? ⟨gb352, 1, none⟩ = some (.int .i64 a1_1) := (blk_cell BK352.out 1).trans rfl
   have hfz21_0 := blk_frozen BK352.out 0
   have hfz21_1 := blk_frozen BK352.out 1
   go_wp2_with (first | ((with_reducible refine gate_callee (f := 44) rfl ?_); refine goesL_ (some 12) rfl rfl Try.func44 (by kernel_rfl) rfl #[.agg #[.int .i64 a0_0, .int .i64 a0_1, .int .i64 a0_2, .int .i64 a0_3], .agg #[.int .i64 a1_0, .int .i64 a1_1]] rfl (by (try simp only [List.map_toArray, List.map_cons, List.map_nil]); first | done | rfl | (simp only [List.length_drop, List.length_take]; rfl)) ?_; (with_reducible refine (rollcallref16_One.calls a0_0 a0_1 a0_2 a0_3 a1_0 a1_1 false _ A8.out).mono ?_); rintro e w22 ⟨rfl, hb⟩; refine ⟨_, rfl, ?_⟩; replace BK351 := Aside0.mk (blk_below (bS BK351.out) hb); replace BK352 := Aside0.mk (blk_below (bS BK352.out) hb); replace BK353 := Aside0.mk (blk_below (bS BK353.out) hb); replace HB := Aside0.mk (below_step (hS HB.out) hb); (try clear hb); (try clear hb2); (try clear hk); (try clear hi)))
   go_meet
   case rel => exact ⟨_, (true), (by first | rfl | (simp; done) | (simp [*]; done)), H', ⟨by first | omega | exact Nat.le_refl _⟩, ⟨bS BK351.out⟩, ⟨bS BK352.out⟩, ⟨bS BK353.out⟩, ⟨by repeat (first | (with_reducible first | exact HB.out | apply below_alloc | apply pw_below_drewN | apply below_drew1 | refine below_set ?_ GE351.out | refine below_set ?_ GE352.out | refine below_set ?_ GE353.out) | exact HB.out)⟩⟩
 case rest =>
  clear HC4
  try clear c1
  try clear c2
  try clear p2
  try clear c4
  try clear c5
  try clear c9
  try clear c11
  try clear c12
  try clear c14
  try clear c17
  try clear c18
  try clear c20
  try clear hcz13_0
  try clear hcz13_1
  try clear hcz13_2
  try clear hcz13_3
  try clear hcz15_0
  try clear hcz15_1
  try clear hcz19_0
  try clear hcz19_1
  try clear hcz19_2
  try clear hcz19_3
  try clear hcz21_0
  try clear hcz21_1
  try clear hfz13_0
  try clear hfz13_1
  try clear hfz13_2
  try clear hfz13_3
  try clear hfz15_0
  try clear hfz15_1
  try clear hfz19_0
  try clear hfz19_1
  try clear hfz19_2
  try clear hfz19_3
  try clear hfz21_0
  try clear hfz21_1
  obtain ⟨kq, x18_3, rfl, HA, HJ3, BK351, BK352, BK353, HB⟩ := hcut
  cases kq with
  | zero => exact absurd HA.out (by simp [rollcallref16_Take.j0])
  | succ kj3 =>
   have H := HA.out
   clear HA
   simp only [rollcallref16_Take.j0] at H
   by_cases c23 : x18_3 = true
   ·subst c23
    have H1 : (some (a1_0, a1_1, false)) = some (r1, r2, r3) := by rw [if_pos rfl] at H; exact H
    clear H
    have H := H1
    clear H1
    simp only [Option.some.injEq, Prod.mk.injEq] at H
    obtain ⟨rfl, rfl, rfl⟩ := H
    have hnb24 := NB352_351.out
    have hnc24 := NB351_352.out
    have hnb25 := NB352_353.out
    have hnc25 := NB353_352.out
    have hcz26_0 : wc.cell? ⟨gb352, 0, none⟩ = some (.int .i64 a1_0) := (blk_cell BK352.out 0).trans rfl
    have hcz26_1 : wc.cell? ⟨gb352, 1, none⟩ = some (.int .i64 a1_1) := (blk_cell BK352.out 1).trans rfl
    have hfz26_0 := blk_frozen BK352.out 0
    have hfz26_1 := blk_frozen BK352.out 1
    have hnb27 := NB353_351.out
    have hnc27 := NB351_353.out
    have hcz28_0 : wc.cell? ⟨gb353, 0, none⟩ = some (.int .i64 0) := (blk_cell BK353.out 0).trans rfl
    have hcz28_1 : wc.cell? ⟨gb353, 1, none⟩ = some (.int .i64 0) := (blk_cell BK353.out 1).trans rfl
    have hfz28_0 := blk_frozen BK353.out 0
    have hfz28_1 := blk_frozen BK353.out 1
    go_wp2
    refine bodyPost_ret (results_ct rfl _ _ gb353 28 #[.int .i64 a1_0, .int .i64 a1_1] (0, 0) _ rfl (bS (blk_put (bS (blk_put (bS BK353.out) 0 _ rfl)) 1 _ rfl)) Try.underlying28 rfl (by kernel_rfl)) rfl ?_
    exact ⟨by first | rfl | (simp [errW_none, errW_some] <;> rfl) | (simp [*, errW_none, errW_some] <;> rfl), by repeat (first | (with_reducible first | exact HB.out | apply below_alloc | apply pw_below_drewN | apply below_drew1 | refine below_set ?_ GE351.out | refine below_set ?_ GE352.out | refine below_set ?_ GE353.out) | exact HB.out)⟩
   ·replace c23 := Bool.eq_false_iff.mpr c23
    subst c23
    have H1 : ((rollcallref16_Level.f kj3 a0_0 a0_1 a0_2 a0_3 a1_0 a1_1 a2).bind fun t356 => (if t356 = 0 then (some (0, mx a2 a1_1, false)) else (some (wrap64 (t356 - 1), mx a2 a1_1, true)))) = some (r1, r2, r3) := by rw [if_neg (show ¬ (false = true) by decide)] at H; exact H
    clear H
    have H := H1
    clear H1
    replace H := Option.bind_eq_some_iff.mp H
    obtain ⟨t356, A290, H⟩ := H
    replace H : (if t356 = 0 then (some (0, mx a2 a1_1, false)) else (some (wrap64 (t356 - 1), mx a2 a1_1, true))) = some (r1, r2, r3) := H
    have A29 := Aside0.mk A290
    clear A290
    obtain ⟨ji30, hji30⟩ : ∃ j_ : Int, (mx a2 a1_1) = j_ := ⟨_, rfl⟩
    replace H : (if t356 = 0 then (some (0, ji30, false)) else (some (wrap64 (t356 - 1), ji30, true))) = some (r1, r2, r3) := by first | (rw [hji30] at H; exact H) | (simp only [hji30] at H ⊢; exact H)
    (try rw [hji30] at A29)
    have hji30_ : (if a2 < a1_1 then a1_1 else a2) = ji30 := hji30
    by_cases c31 : t356 = 0
    ·rw [if_pos c31] at H
     have c31b0 : (t356 == 0) = true := beq_iff_eq.mpr c31
     have c31b1 : (t356 != 0) = false := bne_eq_false_iff_eq.mpr c31
     clear c31
     simp only [Option.some.injEq, Prod.mk.injEq] at H
     obtain ⟨rfl, rfl, rfl⟩ := H
     have hnb32 := NB351_352.out
     have hnc32 := NB352_351.out
     have hnb33 := NB351_353.out
     have hnc33 := NB353_351.out
     have hcz34_0 : wc.cell? ⟨gb351, 0, none⟩ = some (.int .i64 a0_0) := (blk_cell BK351.out 0).trans rfl
     have hcz34_1 : wc.cell? ⟨gb351, 1, none⟩ = some (.int .i64 a0_1) := (blk_cell BK351.out 1).trans rfl
     have hcz34_2 : wc.cell? ⟨gb351, 2, none⟩ = some (.int .i64 a0_2) := (blk_cell BK351.out 2).trans rfl
     have hcz34_3 : wc.cell? ⟨gb351, 3, none⟩ = some (.int .i64 a0_3) := (blk_cell BK351.out 3).trans rfl
     have hfz34_0 := blk_frozen BK351.out 0
     have hfz34_1 := blk_frozen BK351.out 1
     have hfz34_2 := blk_frozen BK351.out 2
     have hfz34_3 := blk_frozen BK351.out 3
     have hnb35 := NB352_353.out
     have hnc35 := NB353_352.out
     have hcz36_0 : wc.cell? ⟨gb352, 0, none⟩ = some (.int .i64 a1_0) := (blk_cell BK352.out 0).trans rfl
     have hcz36_1 : wc.cell? ⟨gb352, 1, none⟩ = some (.int .i64 a1_1) := (blk_cell BK352.out 1).trans rfl
     have hfz36_0 := blk_frozen BK352.out 0
     have hfz36_1 := blk_frozen BK352.out 1
     go_wp2_with (first | ((with_reducible refine gate_callee (f := 29) rfl ?_); refine goesL_ (some 23) rfl rfl Try.func29 (by kernel_rfl) rfl #[.agg #[.int .i64 a0_0, .int .i64 a0_1, .int .i64 a0_2, .int .i64 a0_3], .agg #[.int .i64 a1_0, .int .i64 a1_1], .int .i64 a2] rfl (by (try simp only [List.map_toArray, List.map_cons, List.map_nil]); first | done | rfl | (simp only [List.length_drop, List.length_take]; rfl)) ?_; (with_reducible refine (rollcallref16_Level.calls kj3 a0_0 a0_1 a0_2 a0_3 a1_0 a1_1 a2 t356 _ A29.out).mono ?_); rintro e w37 ⟨rfl, hb⟩; refine ⟨_, rfl, ?_⟩; replace BK351 := Aside0.mk (blk_below (bS BK351.out) hb); replace BK352 := Aside0.mk (blk_below (bS BK352.out) hb); replace BK353 := Aside0.mk (blk_below (bS BK353.out) hb); replace HB := Aside0.mk (below_step (hS HB.out) hb); (try clear hb); (try clear hb2); (try clear hk); (try clear hi); have hcz38_0 : w37.cell? ⟨gb352, 0, none⟩ = some (.int .i64 a1_0) := (blk_cell BK352.out 0).trans rfl; have hcz38_1 : w37.cell? ⟨gb352, 1, none⟩ = some (.int .i64 a1_1) := (blk_cell BK352.out 1).trans rfl; have hfz38_0 := blk_frozen BK352.out 0; have hfz38_1 := blk_frozen BK352.out 1; have hcz39_0 : w37.cell? ⟨gb353, 0, none⟩ = some (.int .i64 0) := (blk_cell BK353.out 0).trans rfl; have hcz39_1 : w37.cell? ⟨gb353, 1, none⟩ = some (.int .i64 0) := (blk_cell BK353.out 1).trans rfl; have hfz39_0 := blk_frozen BK353.out 0; have hfz39_1 := blk_frozen BK353.out 1))
     refine bodyPost_ret (results_ct rfl _ _ gb353 28 #[.int .i64 0, .int .i64 ji30] (0, 0) _ rfl (bS (blk_put (bS (blk_put (bS BK353.out) 0 _ rfl)) 1 _ rfl)) Try.underlying28 rfl (by kernel_rfl)) rfl ?_
     exact ⟨by first | rfl | (simp [errW_none, errW_some] <;> rfl) | (simp only [← hji30]; first | rfl | (simp [errW_none, errW_some] <;> rfl)) | (simp [*, errW_none, errW_some] <;> rfl), by repeat (first | (with_reducible first | exact HB.out | apply below_alloc | apply pw_below_drewN | apply below_drew1 | refine below_set ?_ GE351.out | refine below_set ?_ GE352.out | refine below_set ?_ GE353.out) | exact HB.out)⟩
    ·rw [if_neg c31] at H
     have c31b0 : (t356 == 0) = false := beq_eq_false_iff_ne.mpr c31
     have c31b1 : (t356 != 0) = true := bne_iff_ne.mpr c31
     simp only [Option.some.injEq, Prod.mk.injEq] at H
     obtain ⟨rfl, rfl, rfl⟩ := H
     have hnb40 := NB351_352.out
     have hnc40 := NB352_351.out
     have hnb41 := NB351_353.out
     have hnc41 := NB353_351.out
     have hcz42_0 : wc.cell? ⟨gb351, 0, none⟩ = some (.int .i64 a0_0) := (blk_cell BK351.out 0).trans rfl
     have hcz42_1 : wc.cell? ⟨gb351, 1, none⟩ = some (.int .i64 a0_1) := (blk_cell BK351.out 1).trans rfl
     have hcz42_2 : wc.cell? ⟨gb351, 2, none⟩ = some (.int .i64 a0_2) := (blk_cell BK351.out 2).trans rfl
     have hcz42_3 : wc.cell? ⟨gb351, 3, none⟩ = some (.int .i64 a0_3) := (blk_cell BK351.out 3).trans rfl
     have hfz42_0 := blk_frozen BK351.out 0
     have hfz42_1 := blk_frozen BK351.out 1
     have hfz42_2 := blk_frozen BK351.out 2
     have hfz42_3 := blk_frozen BK351.out 3
     have hnb43 := NB352_353.out
     have hnc43 := NB353_352.out
     have hcz44_0 : wc.cell? ⟨gb352, 0, none⟩ = some (.int .i64 a1_0) := (blk_cell BK352.out 0).trans rfl
     have hcz44_1 : wc.cell? ⟨gb352, 1, none⟩ = some (.int .i64 a1_1) := (blk_cell BK352.out 1).trans rfl
     have hfz44_0 := blk_frozen BK352.out 0
     have hfz44_1 := blk_frozen BK352.out 1
     go_wp2_with (first | ((with_reducible refine gate_callee (f := 29) rfl ?_); refine goesL_ (some 23) rfl rfl Try.func29 (by kernel_rfl) rfl #[.agg #[.int .i64 a0_0, .int .i64 a0_1, .int .i64 a0_2, .int .i64 a0_3], .agg #[.int .i64 a1_0, .int .i64 a1_1], .int .i64 a2] rfl (by (try simp only [List.map_toArray, List.map_cons, List.map_nil]); first | done | rfl | (simp only [List.length_drop, List.length_take]; rfl)) ?_; (with_reducible refine (rollcallref16_Level.calls kj3 a0_0 a0_1 a0_2 a0_3 a1_0 a1_1 a2 t356 _ A29.out).mono ?_); rintro e w45 ⟨rfl, hb⟩; refine ⟨_, rfl, ?_⟩; replace BK351 := Aside0.mk (blk_below (bS BK351.out) hb); replace BK352 := Aside0.mk (blk_below (bS BK352.out) hb); replace BK353 := Aside0.mk (blk_below (bS BK353.out) hb); replace HB := Aside0.mk (below_step (hS HB.out) hb); (try clear hb); (try clear hb2); (try clear hk); (try clear hi); have hcz46_0 : w45.cell? ⟨gb352, 0, none⟩ = some (.int .i64 a1_0) := (blk_cell BK352.out 0).trans rfl; have hcz46_1 : w45.cell? ⟨gb352, 1, none⟩ = some (.int .i64 a1_1) := (blk_cell BK352.out 1).trans rfl; have hfz46_0 := blk_frozen BK352.out 0; have hfz46_1 := blk_frozen BK352.out 1; have hcz47_0 : w45.cell? ⟨gb353, 0, none⟩ = some (.int .i64 0) := (blk_cell BK353.out 0).trans rfl; have hcz47_1 : w45.cell? ⟨gb353, 1, none⟩ = some (.int .i64 0) := (blk_cell BK353.out 1).trans rfl; have hfz47_0 := blk_frozen BK353.out 0; have hfz47_1 := blk_frozen BK353.out 1))
     refine bodyPost_ret (results_ct rfl _ _ gb353 28 #[.int .i64 (wrap64 (t356 - 1)), .int .i64 ji30] (0, 0) _ rfl (bS (blk_put (bS (blk_put (bS BK353.out) 0 _ rfl)) 1 _ rfl)) Try.underlying28 rfl (by kernel_rfl)) rfl ?_
     exact ⟨by first | rfl | (simp [errW_none, errW_some] <;> rfl) | (simp only [← hji30]; first | rfl | (simp [errW_none, errW_some] <;> rfl)) | (simp [*, errW_none, errW_some] <;> rfl), by repeat (first | (with_reducible first | exact HB.out | apply below_alloc | apply pw_below_drewN | apply below_drew1 | refine below_set ?_ GE351.out | refine below_set ?_ GE352.out | refine below_set ?_ GE353.out) | exact HB.out)⟩

end Go.Proofs.Ytmigglldahkngaa.PA
end

section
/- Tables and their sums, buckets, and which links may be, in plain lists: what the printed functions, and their references, answer. -/
namespace Go.Proofs.Ytmigglldahkngaa.XV17
open Go.RowKit Go.Proofs.Ytmigglldahkngaa.PA Go.Proofs.YtmigglldahkngaaW.PrintWords Go.Proofs.YtmigglldahkngaaW.PrintLast Go.Proofs.Ytmigglldahkngaa.XGen
open Go.Proofs.Ytmigglldahkngaa.XPlace (idx is)
open Go.Proofs.Ytmigglldahkngaa.XLess (lessB)
open Go.Proofs.Ytmigglldahkngaa.XIdent (isB)
open Go.Proofs.Ytmigglldahkngaa.XMay (mayB)
open Go.Proofs.Ytmigglldahkngaa.XPut (refPut_f refPut_n refPut_v P nameP PV cat cat_take)
open Go.Proofs.Ytmigglldahkngaa.XSum (rowB putB putB_size rowB_size fstep fnv sumB)
open Go.Proofs.Ytmigglldahkngaa.XPace (TK lvl tk Fits fits_f)
set_option linter.unusedVariables false
set_option linter.unusedSimpArgs false
theorem wrap64_in (n : Int) (h : -9223372036854775808 ≤ n ∧ n ≤ 9223372036854775807) : wrap64 n = n := by unfold wrap64; omega
/-! ### tables -/
def rowOk (x : Se) : Bool := isB x.f0 && mayB x.f1.f0 x.f1.f1 x.f1.f2 x.f1.f3
def nthS (t : List Se) (j : Nat) : Se := t.getD j z72
theorem nthS_get (t : List Se) (j : Nat) (h : j < t.length) : nthS t j = t[j] := getD_lt t _ j h
def allT (t : List Se) : Nat → Nat → Bool
 | 0, _ => true
 | d + 1, j => rowOk (nthS t j) && ((decide (j = 0) || lessB (nthS t (j - 1)).f0 (nthS t j).f0) && allT t d (j + 1))
/-- Whether a table may be. -/
def mayT (t : List Se) : Bool := decide (t.length ≤ 32) && allT t t.length 0
theorem refMayTL (t : List Se) (ht : t.length ≤ 1000) : ∀ (d k j : Nat), j + d = t.length → d + 60 < k → rollcallref05_May.l0 k t (j : Int) = some (allT t d j) := by
 intro d
 induction d with
 | zero =>
  intro k j hj hk
  obtain ⟨k, rfl⟩ : ∃ m, k = m + 1 := ⟨k - 1, by omega⟩
  rw [rollcallref05_May.l0, if_neg (by omega)]; rfl
 | succ d ih =>
  intro k j hj hk
  obtain ⟨k, rfl⟩ : ∃ m, k = m + 1 := ⟨k - 1, by omega⟩
  rw [rollcallref05_May.l0, if_pos (by omega), if_pos (by omega), rdS_at t j (by omega), refIs_f k _ (by omega), refMay_f k _ _ _ _ (by omega), allT, nthS_get t j (by omega), rowOk]
  simp only [Option.bind_some]
  have hb := ih k (j + 1) (by omega) (by omega)
  cases isB t[j].f0 with
  | false => simp
  | true =>
   cases mayB t[j].f1.f0 t[j].f1.f1 t[j].f1.f2 t[j].f1.f3 with
   | false => simp
   | true =>
    rw [if_pos rfl, if_pos rfl]
    by_cases c : (j : Int) > 0
    ·rw [if_pos c, wrap_pred j (by omega) (by omega), if_pos (by omega), if_pos (by omega), rdS_at t (j - 1) (by omega), refLess_b, nthS_get t (j - 1) (by omega), decide_eq_false (show ¬ j = 0 by omega)]
     simp only [Option.bind_some]
     cases lessB (t[j - 1]'(by omega)).f0 t[j].f0 with
     | false => simp
     | true => rw [if_pos rfl, wrap_succ j (by omega), hb]; simp
    ·rw [if_neg c, wrap_succ j (by omega), hb, decide_eq_true (show j = 0 by omega)]; simp
theorem refMayT_b (k : Nat) (t : List Se) (hk : 200 ≤ k) : rollcallref05_May.f k t = some (mayT t) := by
 unfold rollcallref05_May.f mayT
 by_cases c : (t.length : Int) > 32
 ·rw [if_pos c, decide_eq_false (by omega)]; rfl
 ·rw [if_neg c, show (0 : Int) = ((0 : Nat) : Int) from rfl, refMayTL t (by omega) t.length k 0 (by omega) (by omega), decide_eq_true (by omega)]; rfl
theorem digMayTL (t : List Se) (ht : t.length ≤ 1000) (hs : ∀ x ∈ t, x.f0.size ≤ 9223372036854775807) : ∀ (d k j : Nat), j + d = t.length → d < k → digest_May.l0 k t t (t.length : Int) (j : Int) = some (allT t d j && decide (t.length ≤ 32)) := by
 intro d
 induction d with
 | zero =>
  intro k j hj hk
  obtain ⟨k, rfl⟩ : ∃ m, k = m + 1 := ⟨k - 1, by omega⟩
  rw [digest_May.l0, if_neg (by omega), allT]
  simp only [Bool.true_and, Option.some.injEq, decide_eq_decide]
  omega
 | succ d ih =>
  intro k j hj hk
  obtain ⟨k, rfl⟩ : ∃ m, k = m + 1 := ⟨k - 1, by omega⟩
  have hI : XIdent.ident_Is.f t[j].f0 = some (isB t[j].f0) := by unfold XIdent.ident_Is.f; rw [if_pos (hs _ (List.getElem_mem _))]
  rw [digest_May.l0, if_pos (by omega), if_pos (by omega), if_pos (by omega), rdS_at t j (by omega), show ident_Is.f t[j].f0 = some (isB t[j].f0) from hI, XPut.may_f, allT, nthS_get t j (by omega), rowOk]
  simp only [Option.bind_some]
  have hb := ih k (j + 1) (by omega) (by omega)
  cases isB t[j].f0 with
  | false => simp
  | true =>
   cases mayB t[j].f1.f0 t[j].f1.f1 t[j].f1.f2 t[j].f1.f3 with
   | false => simp
   | true =>
    rw [if_pos rfl, if_pos rfl]
    by_cases c : (j : Int) > 0
    ·rw [if_pos c, wrap_pred j (by omega) (by omega), if_pos (by omega), if_pos (by omega), rdS_at t (j - 1) (by omega), nthS_get t (j - 1) (by omega), decide_eq_false (show ¬ j = 0 by omega)]
     have hL : XLess.ident_Less.f (t[j - 1]'(by omega)).f0 t[j].f0 = some (lessB (t[j - 1]'(by omega)).f0 t[j].f0) := rfl
     rw [show ident_Less.f (t[j - 1]'(by omega)).f0 t[j].f0 = some (lessB (t[j - 1]'(by omega)).f0 t[j].f0) from hL]
     simp only [Option.bind_some]
     cases lessB (t[j - 1]'(by omega)).f0 t[j].f0 with
     | false => simp
     | true => rw [if_pos rfl, wrap_succ j (by omega), hb]; simp
    ·rw [if_neg c, wrap_succ j (by omega), hb, decide_eq_true (show j = 0 by omega)]; simp
theorem digMayT_b (k : Nat) (t : List Se) (ht : t.length ≤ 1000) (hs : ∀ x ∈ t, x.f0.size ≤ 9223372036854775807) (hk : t.length < k) : digest_May.f k t = some (mayT t) := by
 unfold digest_May.f mayT
 have := digMayTL t ht hs t.length k 0 (by omega) hk
 rw [show ((0 : Nat) : Int) = 0 from rfl] at this
 rw [this, Bool.and_comm]
theorem allT_iff (t : List Se) : ∀ (d j : Nat), j + d = t.length → (allT t d j = true ↔ ∀ (i : Nat) (hi : i < t.length), j ≤ i → rowOk t[i] = true ∧ (0 < i → lessB (t[i - 1]'(by omega)).f0 t[i].f0 = true)) := by
 intro d
 induction d with
 | zero => intro j hj; exact ⟨fun _ i hi hji => by omega, fun _ => rfl⟩
 | succ d ih =>
  intro j hj
  rw [allT, Bool.and_eq_true, Bool.and_eq_true, ih (j + 1) (by omega), nthS_get t j (by omega)]
  constructor
  ·rintro ⟨h1, h2, h3⟩ i hi hji
   by_cases e : i = j
   ·subst e
    refine ⟨h1, fun h0 => ?_⟩
    rw [nthS_get t (i - 1) (by omega)] at h2
    rcases Bool.or_eq_true _ _ ▸ h2 with h | h
    ·have := of_decide_eq_true h; omega
    ·exact h
   ·exact h3 i hi (by omega)
  ·intro h
   refine ⟨(h j (by omega) (by omega)).1, ?_, fun i hi hji => h i hi (by omega)⟩
   by_cases e : j = 0
   ·rw [decide_eq_true e]; rfl
   ·rw [nthS_get t (j - 1) (by omega), (h j (by omega) (by omega)).2 (by omega)]; simp
theorem mayT_iff (t : List Se) : mayT t = true ↔ t.length ≤ 32 ∧ (∀ x ∈ t, rowOk x = true) ∧ Srt t := by
 unfold mayT
 rw [Bool.and_eq_true, decide_eq_true_iff, allT_iff t t.length 0 (by omega)]
 constructor
 ·rintro ⟨h1, h2⟩
  refine ⟨h1, fun x hx => ?_, srt_of t fun i hi h0 => (h2 i hi (by omega)).2 h0⟩
  obtain ⟨i, hi, rfl⟩ := List.getElem_of_mem hx
  exact (h2 i hi (by omega)).1
 ·rintro ⟨h1, h2, h3⟩
  exact ⟨h1, fun i hi _ => ⟨h2 _ (List.getElem_mem hi), fun h0 => List.pairwise_iff_getElem.1 h3 (i - 1) i (by omega) hi (by omega)⟩⟩
/-! ### sums -/
theorem refPutL05 (t : List Se) (ht : t.length ≤ 40) : ∀ (d k j : Nat), j + d = t.length → d + 60 < k → rollcallref05_Put.l0 k t (P (t.length : Int) ++ cat ((t.map rowB).take j)) (j : Int) = some (putB t, true) := by
 intro d
 induction d with
 | zero =>
  intro k j hj hk
  obtain ⟨k, rfl⟩ : ∃ m, k = m + 1 := ⟨k - 1, by omega⟩
  rw [rollcallref05_Put.l0, if_neg (by omega), List.take_of_length_le (by simp; omega)]; rfl
 | succ d ih =>
  intro k j hj hk
  obtain ⟨k, rfl⟩ : ∃ m, k = m + 1 := ⟨k - 1, by omega⟩
  rw [rollcallref05_Put.l0, if_pos (by omega), if_pos (by omega), rdS_at t j (by omega), refPut_n k _ (by omega), refPut_v k _ _ _ _ (by omega)]
  simp only [Option.bind_some]
  have hsz := rowB_size t[j]
  have hct : (P (t.length : Int) ++ cat ((t.map rowB).take j)).size ≤ 10 + 86 * 40 := by
   have h2 : cat ((t.map rowB).take j) = cat ((t.take j).map rowB) := by rw [List.map_take]
   have h1 := putB_size (t.take j) t.length
   rw [h2]
   have h3 : (t.take j).length ≤ 40 := by rw [List.length_take]; omega
   omega
  rw [if_pos (by omega), if_pos (by rw [show ∀ a b : ByteArray, (a ++ b).size = a.size + b.size from fun a b => ByteArray.size_append]; omega), wrap_succ j (by omega)]
  have e : (P (t.length : Int) ++ cat ((t.map rowB).take j)) ++ (nameP t[j].f0).1 ++ (PV t[j].f1.f0 t[j].f1.f1 t[j].f1.f2 t[j].f1.f3).1 = P (t.length : Int) ++ cat ((t.map rowB).take (j + 1)) := by
   rw [cat_take (t.map rowB) j (by simp; omega), ByteArray.append_assoc, ByteArray.append_assoc, List.getElem_map]
   rfl
  rw [e]
  exact ih k (j + 1) (by omega) (by omega)
theorem bt_of (s : ByteArray) (j : Nat) (h : j < s.size) : bt s (j : Int) = (bytesOf s)[j]'(by rw [bytesOf_length]; exact h) := by
 unfold bt bytesOf
 rw [dif_pos (by simpa using h)]
 simp only [List.getElem_map, Int.toNat_natCast]
 rfl
theorem refSumL (s : ByteArray) (hs : s.size ≤ 100000) : ∀ (d k j : Nat) (h : Int), j + d = s.size → d < k → rollcallref05_Sum.l0 k s h (j : Int) = some (((bytesOf s).drop j).foldl fstep h) := by
 intro d
 induction d with
 | zero =>
  intro k j h hj hk
  obtain ⟨k, rfl⟩ : ∃ m, k = m + 1 := ⟨k - 1, by omega⟩
  rw [rollcallref05_Sum.l0, if_neg (by omega), List.drop_of_length_le (by rw [bytesOf_length]; omega)]; rfl
 | succ d ih =>
  intro k j h hj hk
  obtain ⟨k, rfl⟩ : ∃ m, k = m + 1 := ⟨k - 1, by omega⟩
  rw [rollcallref05_Sum.l0, if_pos (by omega), if_pos (by omega), wrap_succ j (by omega), ih k (j + 1) _ (by omega) (by omega), List.drop_eq_getElem_cons (i := j) (by rw [bytesOf_length]; omega), List.foldl_cons, bt_of s j (by omega)]
  rfl
theorem refSum_b (k : Nat) (t : List Se) (h : mayT t = true) (hk : 6000 ≤ k) : rollcallref05_Sum.f k t = some (sumB t) := by
 obtain ⟨hl, _, _⟩ := (mayT_iff t).1 h
 have hp : rollcallref05_Put.f k t = some (putB t, true) := by
  unfold rollcallref05_Put.f
  rw [refMayT_b k t (by omega), h]
  simp only [Option.bind_some, if_pos]
  have hw : IntKind.u64.wrap (t.length : Int) = (t.length : Int) := by rw [IntKind.wrap_u64]; omega
  rw [hw, refPut_f k _ (by omega) (by omega) (by omega)]
  simp only [Option.bind_some]
  have := refPutL05 t (by omega) t.length k 0 (by omega) (by omega)
  rw [List.take_zero] at this
  exact (congrArg (fun s => rollcallref05_Put.l0 k t s 0) (show P (t.length : Int) = P (t.length : Int) ++ cat [] by exact (XPut.app_nil _).symm)).trans this
 unfold rollcallref05_Sum.f
 rw [hp]
 simp only [Option.bind_some]
 have hs := putB_size t t.length
 have hs' : (putB t).size ≤ 10 + 86 * t.length := hs
 have := refSumL (putB t) (by omega) (putB t).size k 0 14695981039346656037 (by omega) (by omega)
 exact this
/-! ### buckets -/
theorem ref16May_b (c0 c1 c2 c3 : Int) : rollcallref16_May.f c0 c1 c2 c3 = some (decide (1 ≤ c0 ∧ c0 ≤ 16 ∧ 1 ≤ c1 ∧ c1 ≤ 64 ∧ 1 ≤ c2 ∧ c2 ≤ 16 ∧ 1 ≤ c3 ∧ c3 ≤ 1000)) := by
 unfold rollcallref16_May.f
 repeat' split
 all_goals (simp only [Option.some.injEq]; symm; first | (rw [decide_eq_decide]; omega) | (rw [decide_eq_false_iff_not]; omega))
theorem time_b (n : Int) : rollcallref16_Time.f n = some (decide (0 ≤ n ∧ n ≤ 1099511627776)) := by
 unfold rollcallref16_Time.f
 split
 all_goals (simp only [Option.some.injEq]; symm; first | (rw [decide_eq_decide]; omega) | (rw [decide_eq_false_iff_not]; omega))
/-- Whether a bucket may be one of a config. -/
def OneP (c0 c1 c2 c3 t a : Int) : Prop := (1 ≤ c0 ∧ c0 ≤ 16 ∧ 1 ≤ c1 ∧ c1 ≤ 64 ∧ 1 ≤ c2 ∧ c2 ≤ 16 ∧ 1 ≤ c3 ∧ c3 ≤ 1000) ∧ 0 ≤ t ∧ t ≤ c1 ∧ 0 ≤ a ∧ a ≤ 1099511627776
instance (c0 c1 c2 c3 t a : Int) : Decidable (OneP c0 c1 c2 c3 t a) := by unfold OneP; infer_instance
theorem one16_b (c0 c1 c2 c3 t a : Int) : rollcallref16_One.f c0 c1 c2 c3 t a = some (decide (OneP c0 c1 c2 c3 t a)) := by
 unfold rollcallref16_One.f
 rw [ref16May_b, time_b]
 simp only [Option.bind_some, decide_eq_true_eq]
 repeat' split
 all_goals (simp only [Option.some.injEq]; symm; first | (rw [decide_eq_decide]; unfold OneP; omega) | (rw [decide_eq_false_iff_not]; unfold OneP; omega))
theorem fits_iff (c0 c1 c2 c3 t a n : Int) : Fits c0 c1 c2 c3 t a n ↔ OneP c0 c1 c2 c3 t a ∧ 0 ≤ n ∧ n ≤ 1099511627776 := by
 unfold Fits OneP
 omega

/-- How many tokens there are. -/
def LV (c0 c1 c2 c3 t a n : Int) : Int := if Fits c0 c1 c2 c3 t a n then lvl c1 c2 t a n else 0
theorem level_b (k : Nat) (c0 c1 c2 c3 t a n : Int) (hk : 2 ≤ k) : rollcallref16_Level.f k c0 c1 c2 c3 t a n = some (LV c0 c1 c2 c3 t a n) := by
 obtain ⟨k, rfl⟩ : ∃ m, k = m + 1 := ⟨k - 1, by omega⟩
 unfold rollcallref16_Level.f LV
 rw [one16_b, time_b]
 simp only [Option.bind_some, decide_eq_true_eq, rollcallref16_Level.j0]
 by_cases h : Fits c0 c1 c2 c3 t a n
 ·rw [if_pos h]
  have hf := h
  rw [fits_iff] at hf
  rw [if_pos hf.1, decide_eq_true hf.2]
  simp only [Bool.not_true, Bool.false_eq_true, if_false]
  unfold Fits at h
  unfold lvl tk mn
  by_cases hn : n ≤ a
  ·rw [if_pos hn]
   have : ¬ a < n := by omega
   simp only [this, if_false]
   congr 1
   simp only [Int.zero_mul, Int.add_zero]
   split <;> omega
  ·rw [if_neg hn]
   have hx : 0 ≤ (n - a) * c2 ∧ (n - a) * c2 ≤ 1099511627776 * 16 := ⟨Int.mul_nonneg (by omega) (by omega), Int.mul_le_mul (by omega) (by omega) (by omega) (by omega)⟩
   have w1 : wrap64 (n - a) = n - a := wrap64_in _ ⟨by omega, by omega⟩
   have w2 : wrap64 ((n - a) * c2) = (n - a) * c2 := wrap64_in _ ⟨by omega, by omega⟩
   have w3 : wrap64 (t + (n - a) * c2) = t + (n - a) * c2 := wrap64_in _ ⟨by omega, by omega⟩
   rw [w1, w2, w3, if_pos (show a < n by omega)]
   congr 1
   split <;> split <;> omega
 ·rw [if_neg h]
  rw [fits_iff] at h
  by_cases h1 : OneP c0 c1 c2 c3 t a
  ·rw [if_pos h1, decide_eq_false (fun h2 => h ⟨h1, h2⟩)]; simp
  ·rw [if_neg h1]; simp
theorem refTake_b (k : Nat) (c0 c1 c2 c3 t a n : Int) (hk : 4 ≤ k) : rollcallref16_Take.f k c0 c1 c2 c3 t a n = some (TK c0 c1 c2 c3 t a n) := by
 obtain ⟨k, rfl⟩ : ∃ m, k = m + 1 := ⟨k - 1, by omega⟩
 unfold rollcallref16_Take.f TK
 rw [one16_b, time_b]
 simp only [Option.bind_some, decide_eq_true_eq, rollcallref16_Take.j0]
 by_cases h : Fits c0 c1 c2 c3 t a n
 ·rw [if_pos h]
  have hf := h
  rw [fits_iff] at hf
  rw [if_pos hf.1, decide_eq_true hf.2]
  simp only [Bool.not_true, Bool.false_eq_true, if_false]
  rw [level_b k _ _ _ _ _ _ _ (by omega), LV, if_pos h]
  simp only [Option.bind_some]
  have hl := XPace.lvl_le h
  have e : mx n a = a + tk a n := by unfold mx tk; split <;> split <;> omega
  unfold Fits at h
  by_cases h0 : lvl c1 c2 t a n = 0
  ·rw [if_pos h0, if_pos h0, e]
  ·rw [if_neg h0, if_neg h0, e, wrap64_in _ ⟨by omega, by omega⟩]
 ·rw [if_neg h]
  rw [fits_iff] at h
  by_cases h1 : OneP c0 c1 c2 c3 t a
  ·rw [if_pos h1, decide_eq_false (fun h2 => h ⟨h1, h2⟩)]; simp
  ·rw [if_neg h1]; simp
/-! ### links -/
theorem andR (a b : Bool) (h : a = false) : (b && a) = false := by rw [h, Bool.and_false]
/-- Whether a link may be. -/
def mayK (c0 c1 c2 c3 s : Int) (q : List Ch) (lat : Bool) (t a : Int) (sn : Bool) (d : Int) : Bool :=
 decide (OneP c0 c1 c2 c3 t a) && (decide (0 ≤ s ∧ s ≤ 1099511627776) && (mayQ q lat c0 && (!lat && (decide (0 ≤ d ∧ d ≤ 1099511627776) && (!sn || decide (q.length = 0))))))
theorem refMayK (k : Nat) (c0 c1 c2 c3 s : Int) (q : List Ch) (lat : Bool) (t a : Int) (sn : Bool) (d : Int) (hq : q.length ≤ 40) (hk : 200 ≤ k) : rollcallref18_May.f k c0 c1 c2 c3 s q lat t a sn d = some (mayK c0 c1 c2 c3 s q lat t a sn d) := by
 unfold rollcallref18_May.f mayK
 rw [one16_b, time_b, refMay_b k q lat c0 (by omega) (by omega)]
 simp only [Option.bind_some, decide_eq_true_eq]
 by_cases h1 : OneP c0 c1 c2 c3 t a
 rotate_left
 ·rw [if_neg h1, decide_eq_false h1]; rfl
 rw [if_pos h1, decide_eq_true h1]
 by_cases h2 : s < 0
 ·rw [if_pos h2, decide_eq_false (by omega)]; rfl
 rw [if_neg h2]
 by_cases h3 : s > 1099511627776
 ·rw [if_pos h3, decide_eq_false (by omega)]; rfl
 rw [if_neg h3, decide_eq_true (show 0 ≤ s ∧ s ≤ 1099511627776 by omega)]
 cases mayQ q lat c0 with
 | false => rfl
 | true =>
  cases lat with
  | true => rfl
  | false =>
   by_cases h4 : 0 ≤ d ∧ d ≤ 1099511627776
   ·rw [if_pos h4, decide_eq_true h4]
    cases sn with
    | false => rfl
    | true =>
     simp only [if_pos, Bool.not_false, Bool.not_true, Bool.true_and, Bool.false_or, Option.some.injEq, Bool.false_eq_true, if_false]
     rw [Bool.eq_iff_iff]
     simp
   ·rw [if_neg h4, decide_eq_false h4]; rfl
theorem ltime_b (n : Int) : link_time.f n = some (decide (0 ≤ n ∧ n ≤ 1099511627776)) := by
 unfold link_time.f
 split
 all_goals (simp only [Option.some.injEq]; symm; first | (rw [decide_eq_decide]; omega) | (rw [decide_eq_false_iff_not]; omega))
theorem paceMay_b (c0 c1 c2 c3 : Int) : pace_May.f c0 c1 c2 c3 = some (decide (1 ≤ c0 ∧ c0 ≤ 16 ∧ 1 ≤ c1 ∧ c1 ≤ 64 ∧ 1 ≤ c2 ∧ c2 ≤ 16 ∧ 1 ≤ c3 ∧ c3 ≤ 1000)) := by
 unfold pace_May.f
 simp only [XPace.within_f, Option.bind_some, decide_eq_true_eq]
 repeat' split
 all_goals (simp only [Option.some.injEq]; symm; first | (rw [decide_eq_decide]; omega) | (rw [decide_eq_false_iff_not]; omega))
theorem linkMayK (k : Nat) (c0 c1 c2 c3 s : Int) (q : List Ch) (lat : Bool) (t a : Int) (sn : Bool) (d : Int) (hq : q.length ≤ 40) (hs : ∀ x ∈ q, x.f0.size ≤ 9223372036854775807) (hk : 200 ≤ k) : link_May.f k c0 c1 c2 c3 s q lat t a sn d = some (mayK c0 c1 c2 c3 s q lat t a sn d) := by
 obtain ⟨k, rfl⟩ : ∃ m, k = m + 2 := ⟨k - 2, by omega⟩
 have hQ : ∀ j, 100 ≤ j → queue_May.f j q lat c0 = some (mayQ q lat c0) := fun j hj => may_b j q lat c0 (by omega) hs (by omega)
 unfold link_May.f mayK
 rw [paceMay_b, ltime_b, ltime_b]
 simp only [Option.bind_some, decide_eq_true_eq]
 by_cases h1 : OneP c0 c1 c2 c3 t a
 ·have h1' := h1
  unfold OneP at h1'
  rw [if_pos h1'.1, if_neg (by omega), if_neg (by omega), if_pos (by omega), decide_eq_true h1]
  by_cases h4 : 0 ≤ d ∧ d ≤ 1099511627776
  ·rw [decide_eq_true h4]
   by_cases h2 : 0 ≤ s ∧ s ≤ 1099511627776
   ·rw [decide_eq_true h2]
    simp only [link_May.j0, Bool.not_true, Bool.false_eq_true, if_false, if_neg (show ¬ s < 0 by omega), if_neg (show ¬ s > 1099511627776 by omega), hQ (k + 1) (by omega), Option.bind_some]
    cases mayQ q lat c0 with
    | false => simp
    | true =>
     cases lat with
     | true => simp
     | false =>
      cases sn with
      | false => simp
      | true => simp; rw [Bool.eq_iff_iff]; simp
   ·rw [decide_eq_false h2]
    by_cases h3 : s < 0
    ·simp [link_May.j0, h3]
    ·have h5 : s > 1099511627776 := by omega
     simp [link_May.j0, h3, h5]
  ·rw [decide_eq_false h4]
   simp [link_May.j0]
 ·rw [decide_eq_false h1]
  have hj : ∀ j, link_May.j0 (j + 2) true c0 c1 c2 c3 s q lat t a sn d = some false := fun j => by simp [link_May.j0]
  split
  ·rename_i hc
   split
   ·rename_i h; rw [decide_eq_true h]; exact hj k
   ·split
    ·rename_i h; rw [decide_eq_true h]; exact hj k
    ·split
     ·rename_i h2 h3 h; exact absurd (show OneP c0 c1 c2 c3 t a by unfold OneP; omega) h1
     ·rename_i h; rw [decide_eq_false h]; exact hj k
  ·rename_i hc; rw [decide_eq_false hc]; exact hj k
theorem mayK_iff (c0 c1 c2 c3 s : Int) (q : List Ch) (lat : Bool) (t a : Int) (sn : Bool) (d : Int) : mayK c0 c1 c2 c3 s q lat t a sn d = true ↔ OneP c0 c1 c2 c3 t a ∧ (0 ≤ s ∧ s ≤ 1099511627776) ∧ mayQ q lat c0 = true ∧ lat = false ∧ (0 ≤ d ∧ d ≤ 1099511627776) ∧ (sn = true → q = []) := by
 unfold mayK
 simp only [Bool.and_eq_true, decide_eq_true_eq, Bool.not_eq_true', Bool.or_eq_true]
 constructor
 ·rintro ⟨h1, h2, h3, h4, h5, h6⟩
  exact ⟨h1, h2, h3, h4, h5, fun e => by
   subst e
   rcases h6 with h6 | h6
   ·cases h6
   ·exact List.length_eq_zero_iff.1 h6⟩
 ·rintro ⟨h1, h2, h3, h4, h5, h6⟩
  refine ⟨h1, h2, h3, h4, h5, ?_⟩
  cases sn with
  | false => exact .inl rfl
  | true => exact .inr (by rw [h6 rfl]; rfl)
end Go.Proofs.Ytmigglldahkngaa.XV17
end

section
/- The printed contracts of law18's functions, over Kn. -/
namespace Go.Proofs.Ytmigglldahkngaa.XKn
open Go.RowKit Go.Proofs.YtmigglldahkngaaW.PrintWords Go.Proofs.YtmigglldahkngaaW.PrintLast Go.Proofs.YtmigglldahkngaaW.PrintMore Go.Proofs.Ytmigglldahkngaa.PA Go.Proofs.Ytmigglldahkngaa.XMem Go.Proofs.Ytmigglldahkngaa.XSt
set_option linter.unusedVariables false
set_option linter.unusedSimpArgs false
theorem rollcallref18_Few.kn {w : World} (k : Nat) {a0_0 : Int} {A0_1 : Option Addr} {c0_1 : Nat} {l0_1 : List (S34)} {a0_2 : Bool} {a0_3 : Int} {a0_4 : Int} {a0_5 : Bool} {a0_6 : Int} {r : Bool} (h : rollcallref18_Few.f k a0_0 l0_1 a0_2 a0_3 a0_4 a0_5 a0_6 = some r) {Q1_ : Nat → Prop} (g1 : (V k34 (.slice A0_1 l0_1.length c0_1) l0_1).P w Q1_) :
  Calls Try.prog 9 #[.agg #[.int .i64 a0_0, .slice A0_1 l0_1.length c0_1, .bool a0_2, .int .i64 a0_3, .int .i64 a0_4, .bool a0_5, .int .i64 a0_6]] w fun e w' => e = .returned (.bool r) ∧ Below w.heap.size w w' := by
 refine (rollcallref18_Few.calls k a0_0 A0_1 c0_1 l0_1 a0_2 a0_3 a0_4 a0_5 a0_6 r w (Kd.V_reads' (e := 0) (base := 0) g1).2.2 (Kd.V_reads' (e := 0) (base := 0) g1).2.1 h).mono ?_
 rintro e w' ⟨y0, y1⟩
 exact ⟨y0, y1⟩
theorem link_New.kn {w : World} {a0_0 : Int} {a0_1 : Int} {a0_2 : Int} {a0_3 : Int} {a1 : Int} {r1 : Int} {r2 : List (S34)} {r3 : Bool} {r4 : Int} {r5 : Int} {r6 : Bool} {r7 : Int} {r8 : Int} (h : link_New.f a0_0 a0_1 a0_2 a0_3 a1 = some (r1, r2, r3, r4, r5, r6, r7, r8))  :
  Calls Try.prog 12 #[.agg #[.int .i64 a0_0, .int .i64 a0_1, .int .i64 a0_2, .int .i64 a0_3], .int .i64 a1] w fun e w' => ∃ (Av1_ : Option Addr) (cv1_ : Nat), e = .returned (.tuple #[.agg #[.int .i64 r1, (.slice Av1_ r2.length cv1_), .bool r3, .int .i64 r4, .int .i64 r5, .bool r6, .int .i64 r7], .int .i64 r8]) ∧ (V k34 (.slice Av1_ r2.length cv1_) r2).P w' (fun k => w.heap.size ≤ k) ∧ Below w.heap.size w w' := by
 refine (link_New.calls a0_0 a0_1 a0_2 a0_3 a1 r1 r2 r3 r4 r5 r6 r7 r8 w h).mono ?_
 rintro e w' ⟨v1_, y0, y1, y2⟩
 have z1 := R_new y1
 obtain ⟨Av1_, cv1_, rfl⟩ := Kd.V_slice (e := 0) (base := 0) z1
 exact ⟨Av1_, cv1_, y0, z1, y2⟩
theorem rollcallref18_Same.kn {w : World} (k : Nat) {a0_0 : Int} {A0_1 : Option Addr} {c0_1 : Nat} {l0_1 : List (S34)} {a0_2 : Bool} {a0_3 : Int} {a0_4 : Int} {a0_5 : Bool} {a0_6 : Int} {a1_0 : Int} {A1_1 : Option Addr} {c1_1 : Nat} {l1_1 : List (S34)} {a1_2 : Bool} {a1_3 : Int} {a1_4 : Int} {a1_5 : Bool} {a1_6 : Int} {r : Bool} (h : rollcallref18_Same.f k a0_0 l0_1 a0_2 a0_3 a0_4 a0_5 a0_6 a1_0 l1_1 a1_2 a1_3 a1_4 a1_5 a1_6 = some r) {Q1_ : Nat → Prop} {Q2_ : Nat → Prop} (g1 : (V k34 (.slice A0_1 l0_1.length c0_1) l0_1).P w Q1_) (g2 : (V k34 (.slice A1_1 l1_1.length c1_1) l1_1).P w Q2_) :
  Calls Try.prog 14 #[.agg #[.int .i64 a0_0, .slice A0_1 l0_1.length c0_1, .bool a0_2, .int .i64 a0_3, .int .i64 a0_4, .bool a0_5, .int .i64 a0_6], .agg #[.int .i64 a1_0, .slice A1_1 l1_1.length c1_1, .bool a1_2, .int .i64 a1_3, .int .i64 a1_4, .bool a1_5, .int .i64 a1_6]] w fun e w' => e = .returned (.bool r) ∧ Below w.heap.size w w' := by
 refine (rollcallref18_Same.calls k a0_0 A0_1 c0_1 l0_1 a0_2 a0_3 a0_4 a0_5 a0_6 a1_0 A1_1 c1_1 l1_1 a1_2 a1_3 a1_4 a1_5 a1_6 r w (Kd.V_reads' (e := 0) (base := 0) g1).2.2 (Kd.V_reads' (e := 0) (base := 0) g1).2.1 (Kd.V_reads' (e := 0) (base := 0) g2).2.2 (Kd.V_reads' (e := 0) (base := 0) g2).2.1 h).mono ?_
 rintro e w' ⟨y0, y1⟩
 exact ⟨y0, y1⟩
theorem link_May.kn {w : World} (k : Nat) {a0_0 : Int} {a0_1 : Int} {a0_2 : Int} {a0_3 : Int} {a1_0 : Int} {A1_1 : Option Addr} {c1_1 : Nat} {l1_1 : List (S34)} {a1_2 : Bool} {a1_3 : Int} {a1_4 : Int} {a1_5 : Bool} {a1_6 : Int} {r : Bool} (h : link_May.f k a0_0 a0_1 a0_2 a0_3 a1_0 l1_1 a1_2 a1_3 a1_4 a1_5 a1_6 = some r) {Q1_ : Nat → Prop} (g1 : (V k34 (.slice A1_1 l1_1.length c1_1) l1_1).P w Q1_) :
  Calls Try.prog 15 #[.agg #[.int .i64 a0_0, .int .i64 a0_1, .int .i64 a0_2, .int .i64 a0_3], .agg #[.int .i64 a1_0, .slice A1_1 l1_1.length c1_1, .bool a1_2, .int .i64 a1_3, .int .i64 a1_4, .bool a1_5, .int .i64 a1_6]] w fun e w' => e = .returned (.bool r) ∧ Below w.heap.size w w' := by
 refine (link_May.calls k a0_0 a0_1 a0_2 a0_3 a1_0 A1_1 c1_1 l1_1 a1_2 a1_3 a1_4 a1_5 a1_6 r w (Kd.V_reads' (e := 0) (base := 0) g1).2.2 (Kd.V_reads' (e := 0) (base := 0) g1).2.1 h).mono ?_
 rintro e w' ⟨y0, y1⟩
 exact ⟨y0, y1⟩
theorem rollcallref18_May.kn {w : World} (k : Nat) {a0_0 : Int} {a0_1 : Int} {a0_2 : Int} {a0_3 : Int} {a1_0 : Int} {A1_1 : Option Addr} {c1_1 : Nat} {l1_1 : List (S34)} {a1_2 : Bool} {a1_3 : Int} {a1_4 : Int} {a1_5 : Bool} {a1_6 : Int} {r : Bool} (h : rollcallref18_May.f k a0_0 a0_1 a0_2 a0_3 a1_0 l1_1 a1_2 a1_3 a1_4 a1_5 a1_6 = some r) {Q1_ : Nat → Prop} (g1 : (V k34 (.slice A1_1 l1_1.length c1_1) l1_1).P w Q1_) :
  Calls Try.prog 16 #[.agg #[.int .i64 a0_0, .int .i64 a0_1, .int .i64 a0_2, .int .i64 a0_3], .agg #[.int .i64 a1_0, .slice A1_1 l1_1.length c1_1, .bool a1_2, .int .i64 a1_3, .int .i64 a1_4, .bool a1_5, .int .i64 a1_6]] w fun e w' => e = .returned (.bool r) ∧ Below w.heap.size w w' := by
 refine (rollcallref18_May.calls k a0_0 a0_1 a0_2 a0_3 a1_0 A1_1 c1_1 l1_1 a1_2 a1_3 a1_4 a1_5 a1_6 r w (Kd.V_reads' (e := 0) (base := 0) g1).2.2 (Kd.V_reads' (e := 0) (base := 0) g1).2.1 h).mono ?_
 rintro e w' ⟨y0, y1⟩
 exact ⟨y0, y1⟩
theorem link_Quiet.kn {w : World} {a0_0 : Int} {A0_1 : Option Addr} {c0_1 : Nat} {l0_1 : List (S34)} {a0_2 : Bool} {a0_3 : Int} {a0_4 : Int} {a0_5 : Bool} {a0_6 : Int} {r : Bool} (h : link_Quiet.f a0_0 l0_1 a0_2 a0_3 a0_4 a0_5 a0_6 = some r) {Q1_ : Nat → Prop} (g1 : (V k34 (.slice A0_1 l0_1.length c0_1) l0_1).P w Q1_) :
  Calls Try.prog 17 #[.agg #[.int .i64 a0_0, .slice A0_1 l0_1.length c0_1, .bool a0_2, .int .i64 a0_3, .int .i64 a0_4, .bool a0_5, .int .i64 a0_6]] w fun e w' => e = .returned (.bool r) ∧ Below w.heap.size w w' := by
 refine (link_Quiet.calls a0_0 A0_1 c0_1 l0_1 a0_2 a0_3 a0_4 a0_5 a0_6 r w (Kd.V_reads' (e := 0) (base := 0) g1).2.2 (Kd.V_reads' (e := 0) (base := 0) g1).2.1 h).mono ?_
 rintro e w' ⟨y0, y1⟩
 exact ⟨y0, y1⟩
theorem link_Ask.kn {w : World} {a0_0 : Int} {A0_1 : Option Addr} {c0_1 : Nat} {l0_1 : List (S34)} {a0_2 : Bool} {a0_3 : Int} {a0_4 : Int} {a0_5 : Bool} {a0_6 : Int} {r1 : Int} {r2 : List (S34)} {r3 : Bool} {r4 : Int} {r5 : Int} {r6 : Bool} {r7 : Int} (h : link_Ask.f a0_0 l0_1 a0_2 a0_3 a0_4 a0_5 a0_6 = some (r1, r2, r3, r4, r5, r6, r7)) {Q1_ : Nat → Prop} (g1 : (V k34 (.slice A0_1 l0_1.length c0_1) l0_1).P w Q1_) :
  Calls Try.prog 21 #[.agg #[.int .i64 a0_0, .slice A0_1 l0_1.length c0_1, .bool a0_2, .int .i64 a0_3, .int .i64 a0_4, .bool a0_5, .int .i64 a0_6]] w fun e w' => ∃ (Av1_ : Option Addr) (cv1_ : Nat), e = .returned (.agg #[.int .i64 r1, (.slice Av1_ r2.length cv1_), .bool r3, .int .i64 r4, .int .i64 r5, .bool r6, .int .i64 r7]) ∧ (V k34 (.slice Av1_ r2.length cv1_) r2).P w' (fun k => w.heap.size ≤ k) ∧ Below w.heap.size w w' := by
 refine (link_Ask.calls a0_0 A0_1 c0_1 l0_1 a0_2 a0_3 a0_4 a0_5 a0_6 r1 r2 r3 r4 r5 r6 r7 w (Kd.V_reads' (e := 0) (base := 0) g1).2.2 (Kd.V_reads' (e := 0) (base := 0) g1).2.1 h).mono ?_
 rintro e w' ⟨v1_, y0, y1, y2⟩
 have z1 := R_new y1
 obtain ⟨Av1_, cv1_, rfl⟩ := Kd.V_slice (e := 0) (base := 0) z1
 exact ⟨Av1_, cv1_, y0, z1, y2⟩
theorem rollcallref05_Few.kn {w : World} (k : Nat) {A0 : Option Addr} {c0 : Nat} {l0 : List (S72)} {r : Bool} (h : rollcallref05_Few.f k l0 = some r) {Q1_ : Nat → Prop} (g1 : (V k72 (.slice A0 l0.length c0) l0).P w Q1_) :
  Calls Try.prog 23 #[.slice A0 l0.length c0] w fun e w' => e = .returned (.bool r) ∧ Below w.heap.size w w' := by
 refine (rollcallref05_Few.calls k A0 c0 l0 r w (Kd.V_reads' (e := 0) (base := 0) g1).2.2 (Kd.V_reads' (e := 0) (base := 0) g1).2.1 h).mono ?_
 rintro e w' ⟨y0, y1⟩
 exact ⟨y0, y1.below⟩
theorem rollcallref18_Frames.kn {w : World} (k : Nat) {A0 : Option Addr} {c0 : Nat} {l0 : List (S60)} {A1 : Option Addr} {c1 : Nat} {l1 : List (S60)} {r : Bool} (h : rollcallref18_Frames.f k l0 l1 = some r) {Q1_ : Nat → Prop} {Q2_ : Nat → Prop} (g1 : (V k60 (.slice A0 l0.length c0) l0).P w Q1_) (g2 : (V k60 (.slice A1 l1.length c1) l1).P w Q2_) :
  Calls Try.prog 26 #[.slice A0 l0.length c0, .slice A1 l1.length c1] w fun e w' => e = .returned (.bool r) ∧ Below w.heap.size w w' := by
 refine (rollcallref18_Frames.calls k A0 c0 l0 A1 c1 l1 r w (Kd.V_reads' (e := 0) (base := 0) g1).2.2 (Kd.V_reads' (e := 0) (base := 0) g1).2.1 (Kd.V_reads' (e := 0) (base := 0) g2).2.2 (Kd.V_reads' (e := 0) (base := 0) g2).2.1 h).mono ?_
 rintro e w' ⟨y0, y1⟩
 exact ⟨y0, y1⟩
theorem rollcallref05_May.kn {w : World} (k : Nat) {A0 : Option Addr} {c0 : Nat} {l0 : List (S72)} {r : Bool} (h : rollcallref05_May.f k l0 = some r) {Q1_ : Nat → Prop} (g1 : (V k72 (.slice A0 l0.length c0) l0).P w Q1_) :
  Calls Try.prog 27 #[.slice A0 l0.length c0] w fun e w' => e = .returned (.bool r) ∧ Below w.heap.size w w' := by
 refine (rollcallref05_May.calls k A0 c0 l0 r w (Kd.V_reads' (e := 0) (base := 0) g1).2.2 (Kd.V_reads' (e := 0) (base := 0) g1).2.1 h).mono ?_
 rintro e w' ⟨y0, y1⟩
 exact ⟨y0, y1⟩
theorem rollcallref16_Time.kn {w : World} {a0 : Int} {r : Bool} (h : rollcallref16_Time.f a0 = some r)  :
  Calls Try.prog 28 #[.int .i64 a0] w fun e w' => e = .returned (.bool r) ∧ Below w.heap.size w w' := by
 refine (rollcallref16_Time.calls a0 r w h).mono ?_
 rintro e w' ⟨y0, y1⟩
 exact ⟨y0, y1.below⟩
theorem rollcallref05_Sum.kn {w : World} (k : Nat) {A0 : Option Addr} {c0 : Nat} {l0 : List (S72)} {r : Int} (h : rollcallref05_Sum.f k l0 = some r) {Q1_ : Nat → Prop} (g1 : (V k72 (.slice A0 l0.length c0) l0).P w Q1_) :
  Calls Try.prog 33 #[.slice A0 l0.length c0] w fun e w' => e = .returned (.int .u64 r) ∧ Below w.heap.size w w' := by
 refine (rollcallref05_Sum.calls k A0 c0 l0 r w (Kd.V_reads' (e := 0) (base := 0) g1).2.2 (Kd.V_reads' (e := 0) (base := 0) g1).2.1 h).mono ?_
 rintro e w' ⟨y0, y1⟩
 exact ⟨y0, y1⟩
theorem rollcallref17_Pop.kn {w : World} {P0_0_ : Nat → Prop} {A0_0 : Option Addr} {c0_0 : Nat} {l0_0 : List (S34)} {a0_1 : Bool} {r1 : ByteArray} {r2 : Bool} {r3 : Int} {r4 : Int} {r5 : Int} {r6 : ByteArray} {r7 : List (S34)} {r8 : Bool} {r9 : Bool} (h : rollcallref17_Pop.f l0_0 a0_1 = some (r1, r2, r3, r4, r5, r6, r7, r8, r9)) (g1 : (V k34 (.slice A0_0 l0_0.length c0_0) l0_0).P w P0_0_) :
  Calls Try.prog 54 #[.agg #[.slice A0_0 l0_0.length c0_0, .bool a0_1]] w fun e w' => ∃ (Av6_ : Option Addr) (cv6_ : Nat), e = .returned (.tuple #[.agg #[.string r1, .bool r2, .int .i64 r3, .int .i64 r4, .int .i64 r5, .string r6], .agg #[(.slice Av6_ r7.length cv6_), .bool r8], .bool r9]) ∧ (V k34 (.slice Av6_ r7.length cv6_) r7).P w' (fun k_ => (P0_0_ k_ ∨ w.heap.size ≤ k_)) ∧ Below w.heap.size w w' := by
 refine (rollcallref17_Pop.calls P0_0_ A0_0 c0_0 l0_0 a0_1 r1 r2 r3 r4 r5 r6 r7 r8 r9 w (V_to g1 _ _) h).mono ?_
 rintro e w' ⟨v6_, y0, y1, y2⟩
 have z1 := V_any y1
 obtain ⟨Av6_, cv6_, rfl⟩ := Kd.V_slice (e := 0) (base := 0) z1
 exact ⟨Av6_, cv6_, y0, z1, y2⟩
theorem rollcallref16_Take.kn {w : World} (k : Nat) {a0_0 : Int} {a0_1 : Int} {a0_2 : Int} {a0_3 : Int} {a1_0 : Int} {a1_1 : Int} {a2 : Int} {r1 : Int} {r2 : Int} {r3 : Bool} (h : rollcallref16_Take.f k a0_0 a0_1 a0_2 a0_3 a1_0 a1_1 a2 = some (r1, r2, r3))  :
  Calls Try.prog 53 #[.agg #[.int .i64 a0_0, .int .i64 a0_1, .int .i64 a0_2, .int .i64 a0_3], .agg #[.int .i64 a1_0, .int .i64 a1_1], .int .i64 a2] w fun e w' => e = .returned (.tuple #[.agg #[.int .i64 r1, .int .i64 r2], .bool r3]) ∧ Below w.heap.size w w' := by
 refine (rollcallref16_Take.calls k a0_0 a0_1 a0_2 a0_3 a1_0 a1_1 a2 r1 r2 r3 w h).mono ?_
 rintro e w' ⟨y0, y1⟩
 exact ⟨y0, y1⟩
end Go.Proofs.Ytmigglldahkngaa.XKn
end

section
/- rollcallref18's Emit, walked: what any link tells next. -/
namespace Go.Proofs.Ytmigglldahkngaa.XTell
open Go.RowKit Go.Proofs.YtmigglldahkngaaW.PrintWords Go.Proofs.YtmigglldahkngaaW.PrintLast Go.Proofs.YtmigglldahkngaaW.PrintMore Go.Proofs.Ytmigglldahkngaa.PA Go.Proofs.Ytmigglldahkngaa.XMem Go.Proofs.Ytmigglldahkngaa.XSum Go.Proofs.Ytmigglldahkngaa.XSt Go.Proofs.Ytmigglldahkngaa.XKn
open Go.Proofs.Ytmigglldahkngaa.XPace (TK)
open Go.Proofs.Ytmigglldahkngaa.XV17 (mayT popQ refPop_b refSum_b refTake_b)
set_option linter.unusedVariables false
set_option linter.unusedSimpArgs false
set_option maxRecDepth 100000
abbrev TLk : TypeId := 30
abbrev TFr : TypeId := 60
abbrev TCh : TypeId := 34
set_option maxHeartbeats 16000000 in
theorem refEmit_go (ok : Nat → Prop) (k1 k2 K : Nat) (c0 c1 c2 c3 s : Int) (A : Option Addr) (cc : Nat) (q : List Ch) (tok at_ : Int) (sn : Bool) (dg : Int) (B : Option Addr) (mc : Nat) (t : List Se) (now : Int) (w0 w : World)
  (S : Kn ok w0 [] nil tt [V kSe (.slice B t.length mc) t, V kCh (.slice A q.length cc) q] w)
  (h1 : rollcallref18_May.f k1 c0 c1 c2 c3 s q false tok at_ sn dg = some true) (h2 : rollcallref05_May.f k2 t = some true) (h3 : rollcallref16_Time.f now = some true)
  (hs0 : 0 ≤ s) (hd0 : 0 ≤ dg) (hd1 : dg ≤ 1099511627776) (hn0 : 0 ≤ now) (hn1 : now ≤ 1099511627776) (hm : mayT t = true) (hK : K ≤ 1000) (hq : q.length ≤ 1000) (R : St) (hR : emitP c0 c1 c2 c3 now t K ⟨s, q, sn, tok, at_, dg, []⟩ = some R) :
  Calls Try.prog 25 #[.agg #[.int .i64 c0, .int .i64 c1, .int .i64 c2, .int .i64 c3], .agg #[.int .i64 s, .slice A q.length cc, .bool false, .int .i64 tok, .int .i64 at_, .bool sn, .int .i64 dg], .slice B t.length mc, .int .i64 now] w
   fun e w' => ∃ (A' : Option Addr) (c' : Nat) (A2 : Option Addr) (c2' : Nat), e = .returned (.tuple #[.agg #[.int .i64 R.s, .slice A' R.q.length c', .bool false, .int .i64 R.tok, .int .i64 R.at_, .bool R.sn, .int .i64 R.dg], .slice A2 R.fs.length c2']) ∧ Kd.V kCh 0 w' 0 (fun k => ok k ∨ w0.heap.size ≤ k) (.slice A' R.q.length c') R.q ∧ Kd.V kFr 0 w' 0 (fun k => ok k ∨ w0.heap.size ≤ k) (.slice A2 R.fs.length c2') R.fs ∧ Below w0.heap.size w0 w' := by
 have F1 := Aside0.mk h1
 have F2 := Aside0.mk h2
 have F3 := Aside0.mk h3
 have HR := Aside0.mk hR
 have HM := Aside0.mk hm
 have HN := Aside0.mk (And.intro hn0 hn1)
 have HK := Aside0.mk hK
 have HS := Aside0.mk (And.intro hs0 (And.intro hd0 (And.intro hd1 hq)))
 clear h1 h2 h3 hR hs0 hd0 hd1 hm hn0 hn1 hK hq
 go_enter Try.func25, Try.ntmps25
 go_upto_region 1 with (fail)
 generalize hg : World.alloc _ _ = w1
 replace S := S.new3 hg
 clear hg
 generalize w.heap.size + 2 = p8 at S ⊢
 generalize w.heap.size + 1 = p5 at S ⊢
 generalize w.heap.size = p4 at S ⊢
 replace S : Kn ok w0 [(p8, .cells #[.int .i64 0, .slice none 0 0, .bool false, .int .i64 0, .int .i64 0, .bool false, .int .i64 0] TLk (0, 0)), (p5, .cells #[.int .i64 s, .slice A q.length cc, .bool false, .int .i64 tok, .int .i64 at_, .bool sn, .int .i64 dg] TLk (0, 0)), (p4, .cells #[.int .i64 c0, .int .i64 c1, .int .i64 c2, .int .i64 c3] 23 (0, 0))] nil tt [V kSe (.slice B t.length mc) t, V kCh (.slice A q.length cc) q] w1 := S
 have b4_0 : w1.cell? ⟨p4, 0, none⟩ = some (.int .i64 c0) := S.cell 2 0 rfl rfl
 have b4_1 : w1.cell? ⟨p4, 1, none⟩ = some (.int .i64 c1) := S.cell 2 1 rfl rfl
 have b4_2 : w1.cell? ⟨p4, 2, none⟩ = some (.int .i64 c2) := S.cell 2 2 rfl rfl
 have b4_3 : w1.cell? ⟨p4, 3, none⟩ = some (.int .i64 c3) := S.cell 2 3 rfl rfl
 have b5_0 : w1.cell? ⟨p5, 0, none⟩ = some (.int .i64 s) := S.cell 1 0 rfl rfl
 have b5_1 : w1.cell? ⟨p5, 1, none⟩ = some (.slice A q.length cc) := S.cell 1 1 rfl rfl
 have b5_2 : w1.cell? ⟨p5, 2, none⟩ = some (.bool false) := S.cell 1 2 rfl rfl
 have b5_3 : w1.cell? ⟨p5, 3, none⟩ = some (.int .i64 tok) := S.cell 1 3 rfl rfl
 have b5_4 : w1.cell? ⟨p5, 4, none⟩ = some (.int .i64 at_) := S.cell 1 4 rfl rfl
 have b5_5 : w1.cell? ⟨p5, 5, none⟩ = some (.bool sn) := S.cell 1 5 rfl rfl
 have b5_6 : w1.cell? ⟨p5, 6, none⟩ = some (.int .i64 dg) := S.cell 1 6 rfl rfl
 go_wp2_with fail
 refine (rollcallref18_May.kn k1 F1.out (S.ft 1 rfl)).mono ?_
 rintro e w2 ⟨rfl, hb⟩
 replace S := S.below hb
 clear b4_0 b4_1 b4_2 b4_3 b5_0 b5_1 b5_2 b5_3 b5_4 b5_5 b5_6 hb
 go_wp2_with fail
 refine (rollcallref05_May.kn k2 F2.out (S.ft 0 rfl)).mono ?_
 rintro e w3 ⟨rfl, hb⟩
 replace S := S.below hb
 clear hb
 go_wp2_with fail
 refine (rollcallref16_Time.kn F3.out).mono ?_
 rintro e w4 ⟨rfl, hb⟩
 replace S := S.below hb
 clear hb F1 F2 F3
 replace S := S.opened (v := nil) (U' := N kFr TFr w0.heap.size nil []) (Kd.N_nil _ _ _ _ _) (by simp [Value.ownBlock])
 go_wp2
 have HA := Aside0.mk S
 clear S
 go_loopg [10] K (fun g out wr => ∃ (st : St) (A' : Option Addr) (c' : Nat), Aside0 (emitP c0 c1 c2 c3 now t g st = some R) ∧ Aside0 (0 ≤ st.s ∧ 0 ≤ st.dg ∧ st.dg ≤ 1099511627776 ∧ st.fs.length + g ≤ K ∧ st.q.length ≤ 1000) ∧ Aside0 (Kn ok w0 [(p8, .cells #[.int .i64 0, .slice none 0 0, .bool false, .int .i64 0, .int .i64 0, .bool false, .int .i64 0] TLk (0, 0)), (p5, .cells #[.int .i64 st.s, .slice A' st.q.length c', .bool false, .int .i64 st.tok, .int .i64 st.at_, .bool st.sn, .int .i64 st.dg] TLk (0, 0)), (p4, .cells #[.int .i64 c0, .int .i64 c1, .int .i64 c2, .int .i64 c3] 23 (0, 0))] (out : Value) (N kFr TFr w0.heap.size out st.fs) [V kSe (.slice B t.length mc) t, V kCh (.slice A' st.q.length c') st.q] wr))
 case atStart => exact ⟨⟨s, q, sn, tok, at_, dg, []⟩, A, cc, HR, ⟨⟨HS.out.1, HS.out.2.1, HS.out.2.2.1, by simp, HS.out.2.2.2⟩⟩, HA⟩
 case round =>
  obtain ⟨st, A', c', hE, hI, hA⟩ := hrel
  clear HA HR HS
  have S := hA.out
  clear hA
  obtain ⟨g, rfl⟩ : ∃ g, gk = g + 1 := by
   cases gk with
   | zero => exact absurd hE.out (by simp [emitP])
   | succ g => exact ⟨g, rfl⟩
  have hE' := hE.out
  rw [emitP] at hE'
  clear hE
  obtain ⟨hs0, hd0, hd1, hfl, hql⟩ := hI.out
  clear hI
  obtain ⟨ss, qq, sq, tq, aq, dq, fq⟩ := st
  dsimp only at hE' S hs0 hd0 hd1 hfl hql
  replace S : Kn ok w0 [(p8, .cells #[.int .i64 0, .slice none 0 0, .bool false, .int .i64 0, .int .i64 0, .bool false, .int .i64 0] TLk (0, 0)), (p5, .cells #[.int .i64 ss, .slice A' qq.length c', .bool false, .int .i64 tq, .int .i64 aq, .bool sq, .int .i64 dq] TLk (0, 0)), (p4, .cells #[.int .i64 c0, .int .i64 c1, .int .i64 c2, .int .i64 c3] 23 (0, 0))] (u10 : Value) (N kFr TFr w0.heap.size u10 fq) [V kSe (.slice B t.length mc) t, V kCh (.slice A' qq.length c') qq] wr := S
  have b5_0 : wr.cell? ⟨p5, 0, none⟩ = some (.int .i64 ss) := S.cell 1 0 rfl rfl
  by_cases hlt : ss < 1099511627776
  rotate_left
  ·rw [if_neg hlt] at hE'
   obtain rfl := Option.some.inj hE'
   have hlt' : 1099511627776 ≤ ss := by omega
   clear hlt hE'
   clear b5_0
   have b5_0 : wr.cell? ⟨p5, 0, none⟩ = some (.int .i64 ss) := S.cell 1 0 rfl rfl
   have b5_1 : wr.cell? ⟨p5, 1, none⟩ = some (.slice A' qq.length c') := S.cell 1 1 rfl rfl
   have b5_2 : wr.cell? ⟨p5, 2, none⟩ = some (.bool false) := S.cell 1 2 rfl rfl
   have b5_3 : wr.cell? ⟨p5, 3, none⟩ = some (.int .i64 tq) := S.cell 1 3 rfl rfl
   have b5_4 : wr.cell? ⟨p5, 4, none⟩ = some (.int .i64 aq) := S.cell 1 4 rfl rfl
   have b5_5 : wr.cell? ⟨p5, 5, none⟩ = some (.bool sq) := S.cell 1 5 rfl rfl
   have b5_6 : wr.cell? ⟨p5, 6, none⟩ = some (.int .i64 dq) := S.cell 1 6 rfl rfl
   have b8_0 : wr.cell? ⟨p8, 0, none⟩ = some (.int .i64 0) := S.cell 0 0 rfl rfl
   have zb8_0 : wr.frozen? ⟨p8, 0, none⟩ = false := S.frozen 0 0 rfl
   have b8_1 : wr.cell? ⟨p8, 1, none⟩ = some (.slice none 0 0) := S.cell 0 1 rfl rfl
   have zb8_1 : wr.frozen? ⟨p8, 1, none⟩ = false := S.frozen 0 1 rfl
   have b8_2 : wr.cell? ⟨p8, 2, none⟩ = some (.bool false) := S.cell 0 2 rfl rfl
   have zb8_2 : wr.frozen? ⟨p8, 2, none⟩ = false := S.frozen 0 2 rfl
   have b8_3 : wr.cell? ⟨p8, 3, none⟩ = some (.int .i64 0) := S.cell 0 3 rfl rfl
   have zb8_3 : wr.frozen? ⟨p8, 3, none⟩ = false := S.frozen 0 3 rfl
   have b8_4 : wr.cell? ⟨p8, 4, none⟩ = some (.int .i64 0) := S.cell 0 4 rfl rfl
   have zb8_4 : wr.frozen? ⟨p8, 4, none⟩ = false := S.frozen 0 4 rfl
   have b8_5 : wr.cell? ⟨p8, 5, none⟩ = some (.bool false) := S.cell 0 5 rfl rfl
   have zb8_5 : wr.frozen? ⟨p8, 5, none⟩ = false := S.frozen 0 5 rfl
   have b8_6 : wr.cell? ⟨p8, 6, none⟩ = some (.int .i64 0) := S.cell 0 6 rfl rfl
   have zb8_6 : wr.frozen? ⟨p8, 6, none⟩ = false := S.frozen 0 6 rfl
   go_wp2
   clear b5_0 b5_1 b5_2 b5_3 b5_4 b5_5 b5_6 b8_0 zb8_0 b8_1 zb8_1 b8_2 zb8_2 b8_3 zb8_3 b8_4 zb8_4 b8_5 zb8_5 b8_6 zb8_6
   generalize hg : World.setCell wr ⟨p8, 0, none⟩ _ = w5
   replace S := S.set 0 hg rfl
   clear hg
   generalize hg : World.setCell w5 ⟨p8, 1, none⟩ _ = w6
   replace S := S.set 0 hg rfl
   clear hg
   generalize hg : World.setCell w6 ⟨p8, 2, none⟩ _ = w7
   replace S := S.set 0 hg rfl
   clear hg
   generalize hg : World.setCell w7 ⟨p8, 3, none⟩ _ = w8
   replace S := S.set 0 hg rfl
   clear hg
   generalize hg : World.setCell w8 ⟨p8, 4, none⟩ _ = w9
   replace S := S.set 0 hg rfl
   clear hg
   generalize hg : World.setCell w9 ⟨p8, 5, none⟩ _ = w10
   replace S := S.set 0 hg rfl
   clear hg
   generalize hg : World.setCell w10 ⟨p8, 6, none⟩ _ = w11
   replace S := S.set 0 hg rfl
   clear hg
   replace S : Kn ok w0 [(p8, .cells #[.int .i64 ss, .slice A' qq.length c', .bool false, .int .i64 tq, .int .i64 aq, .bool sq, .int .i64 dq] TLk (0, 0)), (p5, .cells #[.int .i64 ss, .slice A' qq.length c', .bool false, .int .i64 tq, .int .i64 aq, .bool sq, .int .i64 dq] TLk (0, 0)), (p4, .cells #[.int .i64 c0, .int .i64 c1, .int .i64 c2, .int .i64 c3] 23 (0, 0))] (u10 : Value) (N kFr TFr w0.heap.size u10 fq) [V kSe (.slice B t.length mc) t, V kCh (.slice A' qq.length c') qq] w11 := S
   have b6 := S.get 0 rfl
   have hNf : Kd.N kFr TFr w11 w0.heap.size (Fp ok w0 _) u10 fq := S.own
   have hVq := (S.ft 1 rfl)
   have hBe := S.bel
   clear S
   obtain ⟨A2, c2', rfl⟩ : ∃ A c, u10 = .slice A fq.length c := Kd.V_slice (Kd.N_V (base' := 0) hNf)
   refine bodyPost_ret (results_ct rfl _ _ p8 TLk #[.int .i64 ss, .slice A' qq.length c', .bool false, .int .i64 tq, .int .i64 aq, .bool sq, .int .i64 dq] (0, 0) _ rfl b6 Try.underlying30 rfl (by kernel_rfl)) rfl ?_
   exact ⟨A', c', A2, c2', rfl, Kd.V_mono (show Kd.V kCh 0 _ 0 _ _ _ from hVq) (fun k hk => hk.1.1), show Kd.V kFr TFr _ 0 _ _ _ from Kd.N_V (Kd.N_mono hNf (fun k hk => hk.1)), hBe⟩
  rw [if_pos hlt] at hE'
  have HI := Aside0.mk (And.intro hs0 (And.intro hd0 (And.intro hd1 (And.intro hfl hql))))
  clear hs0 hd0 hd1 hfl hql
  have HE := Aside0.mk hE'
  clear hE'
  have hw : IntKind.i64.wrap (now - dq) = now - dq := IntWalk.i64_in _ (by have := HI.out; have := HN.out; omega)
  have hsb : IntKind.i64.wrap (ss + 1) = ss + 1 := IntWalk.i64_in _ (by have := HI.out; omega)
  by_cases hno : sq = false ∧ qq = [] ∧ now - dq < c3
  ·obtain ⟨rfl, rfl, hdd⟩ := hno
   have hE' := HE.out
   rw [show nextP c3 now t ⟨ss, [], false, tq, aq, dq, fq⟩ = none by simp [nextP, hdd]] at hE'
   dsimp only at hE'
   obtain rfl : _ = R := Option.some.inj (show some _ = some R from by split at hE' <;> exact hE')
   clear hE' HE
   have hdd2 : ¬ c3 ≤ now - dq := by omega
   clear hdd
   clear b5_0
   replace S : Kn ok w0 [(p8, .cells #[.int .i64 0, .slice none 0 0, .bool false, .int .i64 0, .int .i64 0, .bool false, .int .i64 0] TLk (0, 0)), (p5, .cells #[.int .i64 ss, .slice A' ([] : List Ch).length c', .bool false, .int .i64 tq, .int .i64 aq, .bool false, .int .i64 dq] TLk (0, 0)), (p4, .cells #[.int .i64 c0, .int .i64 c1, .int .i64 c2, .int .i64 c3] 23 (0, 0))] (u10 : Value) (N kFr TFr w0.heap.size u10 fq) [V kSe (.slice B t.length mc) t, V kCh (.slice A' ([] : List Ch).length c') ([] : List Ch)] wr := S
   have b4_3 : wr.cell? ⟨p4, 3, none⟩ = some (.int .i64 c3) := S.cell 2 3 rfl rfl
   have b5_0 : wr.cell? ⟨p5, 0, none⟩ = some (.int .i64 ss) := S.cell 1 0 rfl rfl
   have b5_1 : wr.cell? ⟨p5, 1, none⟩ = some (.slice A' ([] : List Ch).length c') := S.cell 1 1 rfl rfl
   have b5_5 : wr.cell? ⟨p5, 5, none⟩ = some (.bool false) := S.cell 1 5 rfl rfl
   have b5_6 : wr.cell? ⟨p5, 6, none⟩ = some (.int .i64 dq) := S.cell 1 6 rfl rfl
   have b5_2 : wr.cell? ⟨p5, 2, none⟩ = some (.bool false) := S.cell 1 2 rfl rfl
   have b5_3 : wr.cell? ⟨p5, 3, none⟩ = some (.int .i64 tq) := S.cell 1 3 rfl rfl
   have b5_4 : wr.cell? ⟨p5, 4, none⟩ = some (.int .i64 aq) := S.cell 1 4 rfl rfl
   have b8_0 : wr.cell? ⟨p8, 0, none⟩ = some (.int .i64 0) := S.cell 0 0 rfl rfl
   have zb8_0 : wr.frozen? ⟨p8, 0, none⟩ = false := S.frozen 0 0 rfl
   have b8_1 : wr.cell? ⟨p8, 1, none⟩ = some (.slice none 0 0) := S.cell 0 1 rfl rfl
   have zb8_1 : wr.frozen? ⟨p8, 1, none⟩ = false := S.frozen 0 1 rfl
   have b8_2 : wr.cell? ⟨p8, 2, none⟩ = some (.bool false) := S.cell 0 2 rfl rfl
   have zb8_2 : wr.frozen? ⟨p8, 2, none⟩ = false := S.frozen 0 2 rfl
   have b8_3 : wr.cell? ⟨p8, 3, none⟩ = some (.int .i64 0) := S.cell 0 3 rfl rfl
   have zb8_3 : wr.frozen? ⟨p8, 3, none⟩ = false := S.frozen 0 3 rfl
   have b8_4 : wr.cell? ⟨p8, 4, none⟩ = some (.int .i64 0) := S.cell 0 4 rfl rfl
   have zb8_4 : wr.frozen? ⟨p8, 4, none⟩ = false := S.frozen 0 4 rfl
   have b8_5 : wr.cell? ⟨p8, 5, none⟩ = some (.bool false) := S.cell 0 5 rfl rfl
   have zb8_5 : wr.frozen? ⟨p8, 5, none⟩ = false := S.frozen 0 5 rfl
   have b8_6 : wr.cell? ⟨p8, 6, none⟩ = some (.int .i64 0) := S.cell 0 6 rfl rfl
   have zb8_6 : wr.frozen? ⟨p8, 6, none⟩ = false := S.frozen 0 6 rfl
   go_wp2
   clear b4_3 b5_0 b5_1 b5_5 b5_6 b5_2 b5_3 b5_4 b8_0 zb8_0 b8_1 zb8_1 b8_2 zb8_2 b8_3 zb8_3 b8_4 zb8_4 b8_5 zb8_5 b8_6 zb8_6
   generalize hg : World.setCell wr ⟨p8, 0, none⟩ _ = w5
   replace S := S.set 0 hg rfl
   clear hg
   generalize hg : World.setCell w5 ⟨p8, 1, none⟩ _ = w6
   replace S := S.set 0 hg rfl
   clear hg
   generalize hg : World.setCell w6 ⟨p8, 2, none⟩ _ = w7
   replace S := S.set 0 hg rfl
   clear hg
   generalize hg : World.setCell w7 ⟨p8, 3, none⟩ _ = w8
   replace S := S.set 0 hg rfl
   clear hg
   generalize hg : World.setCell w8 ⟨p8, 4, none⟩ _ = w9
   replace S := S.set 0 hg rfl
   clear hg
   generalize hg : World.setCell w9 ⟨p8, 5, none⟩ _ = w10
   replace S := S.set 0 hg rfl
   clear hg
   generalize hg : World.setCell w10 ⟨p8, 6, none⟩ _ = w11
   replace S := S.set 0 hg rfl
   clear hg
   replace S : Kn ok w0 [(p8, .cells #[.int .i64 ss, .slice A' ([] : List Ch).length c', .bool false, .int .i64 tq, .int .i64 aq, .bool false, .int .i64 dq] TLk (0, 0)), (p5, .cells #[.int .i64 ss, .slice A' ([] : List Ch).length c', .bool false, .int .i64 tq, .int .i64 aq, .bool false, .int .i64 dq] TLk (0, 0)), (p4, .cells #[.int .i64 c0, .int .i64 c1, .int .i64 c2, .int .i64 c3] 23 (0, 0))] (u10 : Value) (N kFr TFr w0.heap.size u10 fq) [V kSe (.slice B t.length mc) t, V kCh (.slice A' ([] : List Ch).length c') ([] : List Ch)] w11 := S
   have b6 := S.get 0 rfl
   have hNf : Kd.N kFr TFr w11 w0.heap.size (Fp ok w0 _) u10 fq := S.own
   have hVq := (S.ft 1 rfl)
   have hBe := S.bel
   clear S
   obtain ⟨A2, c2', rfl⟩ : ∃ A c, u10 = .slice A fq.length c := Kd.V_slice (Kd.N_V (base' := 0) hNf)
   refine bodyPost_ret (results_ct rfl _ _ p8 TLk #[.int .i64 ss, .slice A' ([] : List Ch).length c', .bool false, .int .i64 tq, .int .i64 aq, .bool false, .int .i64 dq] (0, 0) _ rfl b6 Try.underlying30 rfl (by kernel_rfl)) rfl ?_
   exact ⟨A', c', A2, c2', rfl, Kd.V_mono (show Kd.V kCh 0 _ 0 _ _ _ from hVq) (fun k hk => hk.1.1), show Kd.V kFr TFr _ 0 _ _ _ from Kd.N_V (Kd.N_mono hNf (fun k hk => hk.1)), hBe⟩
  rcases hT : TK c0 c1 c2 c3 tq aq now with ⟨a1, a2, a3⟩
  have HT := Aside0.mk ((refTake_b 9 c0 c1 c2 c3 tq aq now (by omega)).trans (congrArg some hT))
  have hE' := HE.out
  rw [hT] at hE'
  dsimp only at hE'
  replace HE := Aside0.mk hE'
  clear hE' hT
  cases sq with
  | true =>
   have hE' := HE.out
   rw [show nextP c3 now t ⟨ss, qq, true, tq, aq, dq, fq⟩ = some (⟨3, ss, false, ⟨#[]⟩, ⟨0, 0, 0, ⟨#[]⟩⟩, 0, t⟩, qq, false, now) by simp [nextP]] at hE'
   dsimp only at hE'
   replace HE := Aside0.mk hE'
   clear hE' hno
   clear b5_0
   replace S : Kn ok w0 [(p8, .cells #[.int .i64 0, .slice none 0 0, .bool false, .int .i64 0, .int .i64 0, .bool false, .int .i64 0] TLk (0, 0)), (p5, .cells #[.int .i64 ss, .slice A' qq.length c', .bool false, .int .i64 tq, .int .i64 aq, .bool true, .int .i64 dq] TLk (0, 0)), (p4, .cells #[.int .i64 c0, .int .i64 c1, .int .i64 c2, .int .i64 c3] 23 (0, 0))] (u10 : Value) (N kFr TFr w0.heap.size u10 fq) [V kSe (.slice B t.length mc) t, V kCh (.slice A' qq.length c') qq] wr := S
   have b4_3 : wr.cell? ⟨p4, 3, none⟩ = some (.int .i64 c3) := S.cell 2 3 rfl rfl
   have b5_5 : wr.cell? ⟨p5, 5, none⟩ = some (.bool true) := S.cell 1 5 rfl rfl
   have b5_6 : wr.cell? ⟨p5, 6, none⟩ = some (.int .i64 dq) := S.cell 1 6 rfl rfl
   have b4_0 : wr.cell? ⟨p4, 0, none⟩ = some (.int .i64 c0) := S.cell 2 0 rfl rfl
   have b4_1 : wr.cell? ⟨p4, 1, none⟩ = some (.int .i64 c1) := S.cell 2 1 rfl rfl
   have b4_2 : wr.cell? ⟨p4, 2, none⟩ = some (.int .i64 c2) := S.cell 2 2 rfl rfl
   have b5_0 : wr.cell? ⟨p5, 0, none⟩ = some (.int .i64 ss) := S.cell 1 0 rfl rfl
   have b5_1 : wr.cell? ⟨p5, 1, none⟩ = some (.slice A' qq.length c') := S.cell 1 1 rfl rfl
   have b5_2 : wr.cell? ⟨p5, 2, none⟩ = some (.bool false) := S.cell 1 2 rfl rfl
   have b5_3 : wr.cell? ⟨p5, 3, none⟩ = some (.int .i64 tq) := S.cell 1 3 rfl rfl
   have b5_4 : wr.cell? ⟨p5, 4, none⟩ = some (.int .i64 aq) := S.cell 1 4 rfl rfl
   go_wp2_with fail
   refine (rollcallref16_Take.kn 9 HT.out).mono ?_
   rintro e w5 ⟨rfl, hb⟩
   replace S := S.below hb
   clear b4_3 b5_5 b5_6 b4_0 b4_1 b4_2 b5_0 b5_1 b5_2 b5_3 b5_4 hb HT
   go_upto_region 8 with (fail)
   generalize hg : World.alloc _ _ = w6
   replace S := S.new hg
   clear hg
   generalize w5.heap.size = p12 at S ⊢
   replace S : Kn ok w0 [(p12, .cells #[.int .i64 a1, .int .i64 a2] 28 (0, 0)), (p8, .cells #[.int .i64 0, .slice none 0 0, .bool false, .int .i64 0, .int .i64 0, .bool false, .int .i64 0] TLk (0, 0)), (p5, .cells #[.int .i64 ss, .slice A' qq.length c', .bool false, .int .i64 tq, .int .i64 aq, .bool true, .int .i64 dq] TLk (0, 0)), (p4, .cells #[.int .i64 c0, .int .i64 c1, .int .i64 c2, .int .i64 c3] 23 (0, 0))] (u10 : Value) (N kFr TFr w0.heap.size u10 fq) [V kSe (.slice B t.length mc) t, V kCh (.slice A' qq.length c') qq] w6 := S
   cases a3 with
   | false =>
    have hE' := HE.out
    rw [if_neg (by simp)] at hE'
    obtain rfl := Option.some.inj hE'
    clear HE hE'
    replace S := S.pop 1
    replace S : Kn ok w0 [(p8, .cells #[.int .i64 0, .slice none 0 0, .bool false, .int .i64 0, .int .i64 0, .bool false, .int .i64 0] TLk (0, 0)), (p5, .cells #[.int .i64 ss, .slice A' qq.length c', .bool false, .int .i64 tq, .int .i64 aq, .bool true, .int .i64 dq] TLk (0, 0)), (p4, .cells #[.int .i64 c0, .int .i64 c1, .int .i64 c2, .int .i64 c3] 23 (0, 0))] (u10 : Value) (N kFr TFr w0.heap.size u10 fq) [V kSe (.slice B t.length mc) t, V kCh (.slice A' qq.length c') qq] w6 := S
    have b5_0 : w6.cell? ⟨p5, 0, none⟩ = some (.int .i64 ss) := S.cell 1 0 rfl rfl
    have b5_1 : w6.cell? ⟨p5, 1, none⟩ = some (.slice A' qq.length c') := S.cell 1 1 rfl rfl
    have b5_2 : w6.cell? ⟨p5, 2, none⟩ = some (.bool false) := S.cell 1 2 rfl rfl
    have b5_3 : w6.cell? ⟨p5, 3, none⟩ = some (.int .i64 tq) := S.cell 1 3 rfl rfl
    have b5_4 : w6.cell? ⟨p5, 4, none⟩ = some (.int .i64 aq) := S.cell 1 4 rfl rfl
    have b5_5 : w6.cell? ⟨p5, 5, none⟩ = some (.bool true) := S.cell 1 5 rfl rfl
    have b5_6 : w6.cell? ⟨p5, 6, none⟩ = some (.int .i64 dq) := S.cell 1 6 rfl rfl
    have b8_0 : w6.cell? ⟨p8, 0, none⟩ = some (.int .i64 0) := S.cell 0 0 rfl rfl
    have zb8_0 : w6.frozen? ⟨p8, 0, none⟩ = false := S.frozen 0 0 rfl
    have b8_1 : w6.cell? ⟨p8, 1, none⟩ = some (.slice none 0 0) := S.cell 0 1 rfl rfl
    have zb8_1 : w6.frozen? ⟨p8, 1, none⟩ = false := S.frozen 0 1 rfl
    have b8_2 : w6.cell? ⟨p8, 2, none⟩ = some (.bool false) := S.cell 0 2 rfl rfl
    have zb8_2 : w6.frozen? ⟨p8, 2, none⟩ = false := S.frozen 0 2 rfl
    have b8_3 : w6.cell? ⟨p8, 3, none⟩ = some (.int .i64 0) := S.cell 0 3 rfl rfl
    have zb8_3 : w6.frozen? ⟨p8, 3, none⟩ = false := S.frozen 0 3 rfl
    have b8_4 : w6.cell? ⟨p8, 4, none⟩ = some (.int .i64 0) := S.cell 0 4 rfl rfl
    have zb8_4 : w6.frozen? ⟨p8, 4, none⟩ = false := S.frozen 0 4 rfl
    have b8_5 : w6.cell? ⟨p8, 5, none⟩ = some (.bool false) := S.cell 0 5 rfl rfl
    have zb8_5 : w6.frozen? ⟨p8, 5, none⟩ = false := S.frozen 0 5 rfl
    have b8_6 : w6.cell? ⟨p8, 6, none⟩ = some (.int .i64 0) := S.cell 0 6 rfl rfl
    have zb8_6 : w6.frozen? ⟨p8, 6, none⟩ = false := S.frozen 0 6 rfl
    go_wp2
    clear b5_0 b5_1 b5_2 b5_3 b5_4 b5_5 b5_6 b8_0 zb8_0 b8_1 zb8_1 b8_2 zb8_2 b8_3 zb8_3 b8_4 zb8_4 b8_5 zb8_5 b8_6 zb8_6
    generalize hg : World.setCell w6 ⟨p8, 0, none⟩ _ = w7
    replace S := S.set 0 hg rfl
    clear hg
    generalize hg : World.setCell w7 ⟨p8, 1, none⟩ _ = w8
    replace S := S.set 0 hg rfl
    clear hg
    generalize hg : World.setCell w8 ⟨p8, 2, none⟩ _ = w9
    replace S := S.set 0 hg rfl
    clear hg
    generalize hg : World.setCell w9 ⟨p8, 3, none⟩ _ = w10
    replace S := S.set 0 hg rfl
    clear hg
    generalize hg : World.setCell w10 ⟨p8, 4, none⟩ _ = w11
    replace S := S.set 0 hg rfl
    clear hg
    generalize hg : World.setCell w11 ⟨p8, 5, none⟩ _ = w12
    replace S := S.set 0 hg rfl
    clear hg
    generalize hg : World.setCell w12 ⟨p8, 6, none⟩ _ = w13
    replace S := S.set 0 hg rfl
    clear hg
    replace S : Kn ok w0 [(p8, .cells #[.int .i64 ss, .slice A' qq.length c', .bool false, .int .i64 tq, .int .i64 aq, .bool true, .int .i64 dq] TLk (0, 0)), (p5, .cells #[.int .i64 ss, .slice A' qq.length c', .bool false, .int .i64 tq, .int .i64 aq, .bool true, .int .i64 dq] TLk (0, 0)), (p4, .cells #[.int .i64 c0, .int .i64 c1, .int .i64 c2, .int .i64 c3] 23 (0, 0))] (u10 : Value) (N kFr TFr w0.heap.size u10 fq) [V kSe (.slice B t.length mc) t, V kCh (.slice A' qq.length c') qq] w13 := S
    have b6 := S.get 0 rfl
    have hNf : Kd.N kFr TFr w13 w0.heap.size (Fp ok w0 _) u10 fq := S.own
    have hVq := (S.ft 1 rfl)
    have hBe := S.bel
    clear S
    obtain ⟨A2, c2', rfl⟩ : ∃ A c, u10 = .slice A fq.length c := Kd.V_slice (Kd.N_V (base' := 0) hNf)
    refine bodyPost_ret (results_ct rfl _ _ p8 TLk #[.int .i64 ss, .slice A' qq.length c', .bool false, .int .i64 tq, .int .i64 aq, .bool true, .int .i64 dq] (0, 0) _ rfl b6 Try.underlying30 rfl (by kernel_rfl)) rfl ?_
    exact ⟨A', c', A2, c2', rfl, Kd.V_mono (show Kd.V kCh 0 _ 0 _ _ _ from hVq) (fun k hk => hk.1.1), show Kd.V kFr TFr _ 0 _ _ _ from Kd.N_V (Kd.N_mono hNf (fun k hk => hk.1)), hBe⟩
   | true =>
    have hE' := HE.out
    rw [if_pos rfl] at hE'
    have b12_0 : w6.cell? ⟨p12, 0, none⟩ = some (.int .i64 a1) := S.cell 0 0 rfl rfl
    have b12_1 : w6.cell? ⟨p12, 1, none⟩ = some (.int .i64 a2) := S.cell 0 1 rfl rfl
    have b5_3 : w6.cell? ⟨p5, 3, none⟩ = some (.int .i64 tq) := S.cell 2 3 rfl rfl
    have zb5_3 : w6.frozen? ⟨p5, 3, none⟩ = false := S.frozen 2 3 rfl
    have b5_4 : w6.cell? ⟨p5, 4, none⟩ = some (.int .i64 aq) := S.cell 2 4 rfl rfl
    have zb5_4 : w6.frozen? ⟨p5, 4, none⟩ = false := S.frozen 2 4 rfl
    go_upto_region 10 with (fail)
    clear b12_0 b12_1 b5_3 zb5_3 b5_4 zb5_4
    generalize hg : World.setCell w6 ⟨p5, 3, none⟩ _ = w7
    replace S := S.set 2 hg rfl
    clear hg
    generalize hg : World.setCell w7 ⟨p5, 4, none⟩ _ = w8
    replace S := S.set 2 hg rfl
    clear hg
    replace S : Kn ok w0 [(p12, .cells #[.int .i64 a1, .int .i64 a2] 28 (0, 0)), (p8, .cells #[.int .i64 0, .slice none 0 0, .bool false, .int .i64 0, .int .i64 0, .bool false, .int .i64 0] TLk (0, 0)), (p5, .cells #[.int .i64 ss, .slice A' qq.length c', .bool false, .int .i64 a1, .int .i64 a2, .bool true, .int .i64 dq] TLk (0, 0)), (p4, .cells #[.int .i64 c0, .int .i64 c1, .int .i64 c2, .int .i64 c3] 23 (0, 0))] (u10 : Value) (N kFr TFr w0.heap.size u10 fq) [V kSe (.slice B t.length mc) t, V kCh (.slice A' qq.length c') qq] w8 := S
    have b5_0 : w8.cell? ⟨p5, 0, none⟩ = some (.int .i64 ss) := S.cell 2 0 rfl rfl
    go_upto_region 11 with (fail)
    generalize hg : World.alloc _ _ = w9
    replace S := S.new hg
    clear b5_0 hg
    generalize w8.heap.size = p14 at S ⊢
    replace S : Kn ok w0 [(p14, .cells #[.int .i64 0, .int .i64 ss, .bool false, .string ⟨#[]⟩, .int .i64 0, .int .i64 0, .int .i64 0, .string ⟨#[]⟩, .int .u64 0, .slice none 0 0] TFr (0, 0)), (p12, .cells #[.int .i64 a1, .int .i64 a2] 28 (0, 0)), (p8, .cells #[.int .i64 0, .slice none 0 0, .bool false, .int .i64 0, .int .i64 0, .bool false, .int .i64 0] TLk (0, 0)), (p5, .cells #[.int .i64 ss, .slice A' qq.length c', .bool false, .int .i64 a1, .int .i64 a2, .bool true, .int .i64 dq] TLk (0, 0)), (p4, .cells #[.int .i64 c0, .int .i64 c1, .int .i64 c2, .int .i64 c3] 23 (0, 0))] (u10 : Value) (N kFr TFr w0.heap.size u10 fq) [V kSe (.slice B t.length mc) t, V kCh (.slice A' qq.length c') qq] w9 := S
    have b5_5 : w9.cell? ⟨p5, 5, none⟩ = some (.bool true) := S.cell 3 5 rfl rfl
    have b14_0 : w9.cell? ⟨p14, 0, none⟩ = some (.int .i64 0) := S.cell 0 0 rfl rfl
    have zb14_0 : w9.frozen? ⟨p14, 0, none⟩ = false := S.frozen 0 0 rfl
    go_upto_region 13 with (fail)
    clear b5_5 b14_0 zb14_0
    generalize hg : World.setCell w9 ⟨p14, 0, none⟩ _ = w10
    replace S := S.set 0 hg rfl
    clear hg
    replace S : Kn ok w0 [(p14, .cells #[.int .i64 3, .int .i64 ss, .bool false, .string ⟨#[]⟩, .int .i64 0, .int .i64 0, .int .i64 0, .string ⟨#[]⟩, .int .u64 0, .slice none 0 0] TFr (0, 0)), (p12, .cells #[.int .i64 a1, .int .i64 a2] 28 (0, 0)), (p8, .cells #[.int .i64 0, .slice none 0 0, .bool false, .int .i64 0, .int .i64 0, .bool false, .int .i64 0] TLk (0, 0)), (p5, .cells #[.int .i64 ss, .slice A' qq.length c', .bool false, .int .i64 a1, .int .i64 a2, .bool true, .int .i64 dq] TLk (0, 0)), (p4, .cells #[.int .i64 c0, .int .i64 c1, .int .i64 c2, .int .i64 c3] 23 (0, 0))] (u10 : Value) (N kFr TFr w0.heap.size u10 fq) [V kSe (.slice B t.length mc) t, V kCh (.slice A' qq.length c') qq] w10 := S
    have b14_9 : w10.cell? ⟨p14, 9, none⟩ = some (.slice none 0 0) := S.cell 0 9 rfl rfl
    have zb14_9 : w10.frozen? ⟨p14, 9, none⟩ = false := S.frozen 0 9 rfl
    go_upto_region 14 with (fail)
    clear b14_9 zb14_9
    generalize hg : World.setCell w10 ⟨p14, 9, none⟩ _ = w11
    replace S := S.set 0 hg rfl
    clear hg
    replace S : Kn ok w0 [(p14, .cells #[.int .i64 3, .int .i64 ss, .bool false, .string ⟨#[]⟩, .int .i64 0, .int .i64 0, .int .i64 0, .string ⟨#[]⟩, .int .u64 0, .slice B t.length mc] TFr (0, 0)), (p12, .cells #[.int .i64 a1, .int .i64 a2] 28 (0, 0)), (p8, .cells #[.int .i64 0, .slice none 0 0, .bool false, .int .i64 0, .int .i64 0, .bool false, .int .i64 0] TLk (0, 0)), (p5, .cells #[.int .i64 ss, .slice A' qq.length c', .bool false, .int .i64 a1, .int .i64 a2, .bool true, .int .i64 dq] TLk (0, 0)), (p4, .cells #[.int .i64 c0, .int .i64 c1, .int .i64 c2, .int .i64 c3] 23 (0, 0))] (u10 : Value) (N kFr TFr w0.heap.size u10 fq) [V kSe (.slice B t.length mc) t, V kCh (.slice A' qq.length c') qq] w11 := S
    have b5_5 : w11.cell? ⟨p5, 5, none⟩ = some (.bool true) := S.cell 3 5 rfl rfl
    have zb5_5 : w11.frozen? ⟨p5, 5, none⟩ = false := S.frozen 3 5 rfl
    go_upto_region 15 with (fail)
    clear b5_5 zb5_5
    generalize hg : World.setCell w11 ⟨p5, 5, none⟩ _ = w12
    replace S := S.set 3 hg rfl
    clear hg
    replace S : Kn ok w0 [(p14, .cells #[.int .i64 3, .int .i64 ss, .bool false, .string ⟨#[]⟩, .int .i64 0, .int .i64 0, .int .i64 0, .string ⟨#[]⟩, .int .u64 0, .slice B t.length mc] TFr (0, 0)), (p12, .cells #[.int .i64 a1, .int .i64 a2] 28 (0, 0)), (p8, .cells #[.int .i64 0, .slice none 0 0, .bool false, .int .i64 0, .int .i64 0, .bool false, .int .i64 0] TLk (0, 0)), (p5, .cells #[.int .i64 ss, .slice A' qq.length c', .bool false, .int .i64 a1, .int .i64 a2, .bool false, .int .i64 dq] TLk (0, 0)), (p4, .cells #[.int .i64 c0, .int .i64 c1, .int .i64 c2, .int .i64 c3] 23 (0, 0))] (u10 : Value) (N kFr TFr w0.heap.size u10 fq) [V kSe (.slice B t.length mc) t, V kCh (.slice A' qq.length c') qq] w12 := S
    have b5_6 : w12.cell? ⟨p5, 6, none⟩ = some (.int .i64 dq) := S.cell 3 6 rfl rfl
    have zb5_6 : w12.frozen? ⟨p5, 6, none⟩ = false := S.frozen 3 6 rfl
    go_upto_region 26 with (fail)
    clear b5_6 zb5_6
    generalize hg : World.setCell w12 ⟨p5, 6, none⟩ _ = w13
    replace S := S.set 3 hg rfl
    clear hg
    replace S : Kn ok w0 [(p14, .cells #[.int .i64 3, .int .i64 ss, .bool false, .string ⟨#[]⟩, .int .i64 0, .int .i64 0, .int .i64 0, .string ⟨#[]⟩, .int .u64 0, .slice B t.length mc] TFr (0, 0)), (p12, .cells #[.int .i64 a1, .int .i64 a2] 28 (0, 0)), (p8, .cells #[.int .i64 0, .slice none 0 0, .bool false, .int .i64 0, .int .i64 0, .bool false, .int .i64 0] TLk (0, 0)), (p5, .cells #[.int .i64 ss, .slice A' qq.length c', .bool false, .int .i64 a1, .int .i64 a2, .bool false, .int .i64 now] TLk (0, 0)), (p4, .cells #[.int .i64 c0, .int .i64 c1, .int .i64 c2, .int .i64 c3] 23 (0, 0))] (u10 : Value) (N kFr TFr w0.heap.size u10 fq) [V kSe (.slice B t.length mc) t, V kCh (.slice A' qq.length c') qq] w13 := S
    have b14_0 : w13.cell? ⟨p14, 0, none⟩ = some (.int .i64 3) := S.cell 0 0 rfl rfl
    have b14_1 : w13.cell? ⟨p14, 1, none⟩ = some (.int .i64 ss) := S.cell 0 1 rfl rfl
    have b14_2 : w13.cell? ⟨p14, 2, none⟩ = some (.bool false) := S.cell 0 2 rfl rfl
    have b14_3 : w13.cell? ⟨p14, 3, none⟩ = some (.string ⟨#[]⟩) := S.cell 0 3 rfl rfl
    have b14_4 : w13.cell? ⟨p14, 4, none⟩ = some (.int .i64 0) := S.cell 0 4 rfl rfl
    have b14_5 : w13.cell? ⟨p14, 5, none⟩ = some (.int .i64 0) := S.cell 0 5 rfl rfl
    have b14_6 : w13.cell? ⟨p14, 6, none⟩ = some (.int .i64 0) := S.cell 0 6 rfl rfl
    have b14_7 : w13.cell? ⟨p14, 7, none⟩ = some (.string ⟨#[]⟩) := S.cell 0 7 rfl rfl
    have b14_8 : w13.cell? ⟨p14, 8, none⟩ = some (.int .u64 0) := S.cell 0 8 rfl rfl
    have b14_9 : w13.cell? ⟨p14, 9, none⟩ = some (.slice B t.length mc) := S.cell 0 9 rfl rfl
    have hVt := (S.ft 0 rfl)
    have hfk : Kd.FK kFr w13 (Ap ok w0 [(p14, .cells #[.int .i64 3, .int .i64 ss, .bool false, .string ⟨#[]⟩, .int .i64 0, .int .i64 0, .int .i64 0, .string ⟨#[]⟩, .int .u64 0, .slice B t.length mc] TFr (0, 0)), (p12, .cells #[.int .i64 a1, .int .i64 a2] 28 (0, 0)), (p8, .cells #[.int .i64 0, .slice none 0 0, .bool false, .int .i64 0, .int .i64 0, .bool false, .int .i64 0] TLk (0, 0)), (p5, .cells #[.int .i64 ss, .slice A' qq.length c', .bool false, .int .i64 a1, .int .i64 a2, .bool false, .int .i64 now] TLk (0, 0)), (p4, .cells #[.int .i64 c0, .int .i64 c1, .int .i64 c2, .int .i64 c3] 23 (0, 0))] u10) (⟨3, ss, false, ⟨#[]⟩, ⟨0, 0, 0, ⟨#[]⟩⟩, 0, t⟩ : Fr) [.int .i64 3, .int .i64 ss, .bool false, .string ⟨#[]⟩, .int .i64 0, .int .i64 0, .int .i64 0, .string ⟨#[]⟩, .int .u64 0, .slice B t.length mc] := k60_mkF _ _ (⟨3, ss, false, ⟨#[]⟩, ⟨0, 0, 0, ⟨#[]⟩⟩, 0, t⟩ : Fr) (Kd.V_at (e := 0) (base := 0) hVt).2.1 (Kd.V_at (e := 0) (base := 0) hVt).2.2
    have HS := Aside0.mk S
    have HP := Aside0.mk hfk
    clear S hVt hfk
    go_upto_region 27 with ((with_reducible refine gate_builtin (b := .append) (xs := #[.tmp 110, .tmp 112]) rfl ?_); (try (refine gate_guard (by rfl) ?_; dsimp only)); at_builtin; refine Kd.N_append kFr (w0 := w0) w0.heap.size rfl (.tmp 110) (.tmp 112) 50 60 (.agg #[(.int .i64 0), (.int .i64 0), (.bool false), (.string ⟨#[]⟩), (.int .i64 0), (.int .i64 0), (.int .i64 0), (.string ⟨#[]⟩), (.int .u64 0), (.slice none 0 0)]) 112 rfl Try.underlying50 info_fr rfl (by decide) (by omega) u10 fq (⟨3, ss, false, ⟨#[]⟩, ⟨0, 0, 0, ⟨#[]⟩⟩, 0, t⟩ : Fr) [.int .i64 3, .int .i64 ss, .bool false, .string ⟨#[]⟩, .int .i64 0, .int .i64 0, .int .i64 0, .string ⟨#[]⟩, .int .u64 0, .slice B t.length mc] (Fp ok w0 _) (Ap ok w0 _ u10) rfl rfl HP.out (fun _ hk => hk) ?aF HS.out.own HS.out.bel HS.out.bel.size ?aL ?_; (case aF => exact (fun k hk => ⟨.inr (Nat.le_trans HS.out.bel.size hk), fun x hx => by have := HS.out.lt hx; omega⟩)); (case aL => have := HI.out; have := HK.out; omega); intro v1 y1 ho hb hg hat)
    have S := HS.out.grown (U' := N kFr TFr w0.heap.size v1 (fq ++ [(⟨3, ss, false, ⟨#[]⟩, ⟨0, 0, 0, ⟨#[]⟩⟩, 0, t⟩ : Fr)])) ho hb hg hat (Kd.N_lt ho)
    clear HS HP ho hb hg hat
    clear b14_0 b14_1 b14_2 b14_3 b14_4 b14_5 b14_6 b14_7 b14_8 b14_9
    replace S : Kn ok w0 [(p14, .cells #[.int .i64 3, .int .i64 ss, .bool false, .string ⟨#[]⟩, .int .i64 0, .int .i64 0, .int .i64 0, .string ⟨#[]⟩, .int .u64 0, .slice B t.length mc] TFr (0, 0)), (p12, .cells #[.int .i64 a1, .int .i64 a2] 28 (0, 0)), (p8, .cells #[.int .i64 0, .slice none 0 0, .bool false, .int .i64 0, .int .i64 0, .bool false, .int .i64 0] TLk (0, 0)), (p5, .cells #[.int .i64 ss, .slice A' qq.length c', .bool false, .int .i64 a1, .int .i64 a2, .bool false, .int .i64 now] TLk (0, 0)), (p4, .cells #[.int .i64 c0, .int .i64 c1, .int .i64 c2, .int .i64 c3] 23 (0, 0))] v1 (N kFr TFr w0.heap.size v1 (fq ++ [(⟨3, ss, false, ⟨#[]⟩, ⟨0, 0, 0, ⟨#[]⟩⟩, 0, t⟩ : Fr)])) [V kSe (.slice B t.length mc) t, V kCh (.slice A' qq.length c') qq] y1 := S
    have b5_0 : y1.cell? ⟨p5, 0, none⟩ = some (.int .i64 ss) := S.cell 3 0 rfl rfl
    have zb5_0 : y1.frozen? ⟨p5, 0, none⟩ = false := S.frozen 3 0 rfl
    go_wp2
    clear b5_0 zb5_0
    generalize hg : World.setCell y1 ⟨p5, 0, none⟩ _ = w14
    replace S := S.set 3 hg rfl
    clear hg
    replace S : Kn ok w0 [(p14, .cells #[.int .i64 3, .int .i64 ss, .bool false, .string ⟨#[]⟩, .int .i64 0, .int .i64 0, .int .i64 0, .string ⟨#[]⟩, .int .u64 0, .slice B t.length mc] TFr (0, 0)), (p12, .cells #[.int .i64 a1, .int .i64 a2] 28 (0, 0)), (p8, .cells #[.int .i64 0, .slice none 0 0, .bool false, .int .i64 0, .int .i64 0, .bool false, .int .i64 0] TLk (0, 0)), (p5, .cells #[.int .i64 (ss + 1), .slice A' qq.length c', .bool false, .int .i64 a1, .int .i64 a2, .bool false, .int .i64 now] TLk (0, 0)), (p4, .cells #[.int .i64 c0, .int .i64 c1, .int .i64 c2, .int .i64 c3] 23 (0, 0))] v1 (N kFr TFr w0.heap.size v1 (fq ++ [(⟨3, ss, false, ⟨#[]⟩, ⟨0, 0, 0, ⟨#[]⟩⟩, 0, t⟩ : Fr)])) [V kSe (.slice B t.length mc) t, V kCh (.slice A' qq.length c') qq] w14 := S
    replace S := S.pop 2
    replace S : Kn ok w0 [(p8, .cells #[.int .i64 0, .slice none 0 0, .bool false, .int .i64 0, .int .i64 0, .bool false, .int .i64 0] TLk (0, 0)), (p5, .cells #[.int .i64 (ss + 1), .slice A' qq.length c', .bool false, .int .i64 a1, .int .i64 a2, .bool false, .int .i64 now] TLk (0, 0)), (p4, .cells #[.int .i64 c0, .int .i64 c1, .int .i64 c2, .int .i64 c3] 23 (0, 0))] v1 (N kFr TFr w0.heap.size v1 (fq ++ [(⟨3, ss, false, ⟨#[]⟩, ⟨0, 0, 0, ⟨#[]⟩⟩, 0, t⟩ : Fr)])) [V kSe (.slice B t.length mc) t, V kCh (.slice A' qq.length c') qq] w14 := S
    go_roundg g
    case measure => omega
    case rel => exact ⟨⟨ss + 1, qq, false, a1, a2, now, fq ++ [(⟨3, ss, false, ⟨#[]⟩, ⟨0, 0, 0, ⟨#[]⟩⟩, 0, t⟩ : Fr)]⟩, A', c', ⟨hE'⟩, ⟨by have := HI.out; have := HN.out; refine ⟨?_, ?_, ?_, ?_, ?_⟩ <;> simp only [List.length_append, List.length_cons, List.length_nil] at * <;> omega⟩, ⟨S⟩⟩
  | false =>
   cases qq with
   | cons x l =>
    have hE' := HE.out
    rw [show nextP c3 now t ⟨ss, x :: l, false, tq, aq, dq, fq⟩ = some (⟨1, ss, x.f1, x.f0, ⟨x.f2.f0, x.f2.f1, x.f2.f2, x.f2.f3⟩, 0, []⟩, l, false, dq) by simp [nextP]] at hE'
    dsimp only at hE'
    replace HE := Aside0.mk hE'
    clear hE' hno
    have hl0 : ((x :: l).length : Int) ≠ 0 := by simp; omega
    have hl1 : (0 : Int) < ((x :: l).length : Int) := by omega
    have hpop : rollcallref17_Pop.f (x :: l) false = some (x.f0, x.f1, x.f2.f0, x.f2.f1, x.f2.f2, x.f2.f3, l, false, true) := by rw [refPop_b]; rfl
    have HPp := Aside0.mk hpop
    clear hpop
    clear b5_0
    replace S : Kn ok w0 [(p8, .cells #[.int .i64 0, .slice none 0 0, .bool false, .int .i64 0, .int .i64 0, .bool false, .int .i64 0] TLk (0, 0)), (p5, .cells #[.int .i64 ss, .slice A' (x :: l).length c', .bool false, .int .i64 tq, .int .i64 aq, .bool false, .int .i64 dq] TLk (0, 0)), (p4, .cells #[.int .i64 c0, .int .i64 c1, .int .i64 c2, .int .i64 c3] 23 (0, 0))] (u10 : Value) (N kFr TFr w0.heap.size u10 fq) [V kSe (.slice B t.length mc) t, V kCh (.slice A' (x :: l).length c') (x :: l)] wr := S
    skip
    have b4_3 : wr.cell? ⟨p4, 3, none⟩ = some (.int .i64 c3) := S.cell 2 3 rfl rfl
    have b5_1 : wr.cell? ⟨p5, 1, none⟩ = some (.slice A' (x :: l).length c') := S.cell 1 1 rfl rfl
    have b5_5 : wr.cell? ⟨p5, 5, none⟩ = some (.bool false) := S.cell 1 5 rfl rfl
    have b5_6 : wr.cell? ⟨p5, 6, none⟩ = some (.int .i64 dq) := S.cell 1 6 rfl rfl
    have b4_0 : wr.cell? ⟨p4, 0, none⟩ = some (.int .i64 c0) := S.cell 2 0 rfl rfl
    have b4_1 : wr.cell? ⟨p4, 1, none⟩ = some (.int .i64 c1) := S.cell 2 1 rfl rfl
    have b4_2 : wr.cell? ⟨p4, 2, none⟩ = some (.int .i64 c2) := S.cell 2 2 rfl rfl
    have b5_0 : wr.cell? ⟨p5, 0, none⟩ = some (.int .i64 ss) := S.cell 1 0 rfl rfl
    have b5_2 : wr.cell? ⟨p5, 2, none⟩ = some (.bool false) := S.cell 1 2 rfl rfl
    have b5_3 : wr.cell? ⟨p5, 3, none⟩ = some (.int .i64 tq) := S.cell 1 3 rfl rfl
    have b5_4 : wr.cell? ⟨p5, 4, none⟩ = some (.int .i64 aq) := S.cell 1 4 rfl rfl
    go_wp2_with fail
    refine (rollcallref16_Take.kn 9 HT.out).mono ?_
    rintro e w5 ⟨rfl, hb⟩
    replace S := S.below hb
    clear b4_3 b5_1 b5_5 b5_6 b4_0 b4_1 b4_2 b5_0 b5_2 b5_3 b5_4 hb HT
    go_upto_region 8 with (fail)
    generalize hg : World.alloc _ _ = w6
    replace S := S.new hg
    clear hg
    generalize w5.heap.size = p12 at S ⊢
    replace S : Kn ok w0 [(p12, .cells #[.int .i64 a1, .int .i64 a2] 28 (0, 0)), (p8, .cells #[.int .i64 0, .slice none 0 0, .bool false, .int .i64 0, .int .i64 0, .bool false, .int .i64 0] TLk (0, 0)), (p5, .cells #[.int .i64 ss, .slice A' (x :: l).length c', .bool false, .int .i64 tq, .int .i64 aq, .bool false, .int .i64 dq] TLk (0, 0)), (p4, .cells #[.int .i64 c0, .int .i64 c1, .int .i64 c2, .int .i64 c3] 23 (0, 0))] (u10 : Value) (N kFr TFr w0.heap.size u10 fq) [V kSe (.slice B t.length mc) t, V kCh (.slice A' (x :: l).length c') (x :: l)] w6 := S
    cases a3 with
    | false =>
     have hE' := HE.out
     rw [if_neg (by simp)] at hE'
     obtain rfl := Option.some.inj hE'
     clear HE hE'
     replace S := S.pop 1
     replace S : Kn ok w0 [(p8, .cells #[.int .i64 0, .slice none 0 0, .bool false, .int .i64 0, .int .i64 0, .bool false, .int .i64 0] TLk (0, 0)), (p5, .cells #[.int .i64 ss, .slice A' (x :: l).length c', .bool false, .int .i64 tq, .int .i64 aq, .bool false, .int .i64 dq] TLk (0, 0)), (p4, .cells #[.int .i64 c0, .int .i64 c1, .int .i64 c2, .int .i64 c3] 23 (0, 0))] (u10 : Value) (N kFr TFr w0.heap.size u10 fq) [V kSe (.slice B t.length mc) t, V kCh (.slice A' (x :: l).length c') (x :: l)] w6 := S
     have b5_0 : w6.cell? ⟨p5, 0, none⟩ = some (.int .i64 ss) := S.cell 1 0 rfl rfl
     have b5_1 : w6.cell? ⟨p5, 1, none⟩ = some (.slice A' (x :: l).length c') := S.cell 1 1 rfl rfl
     have b5_2 : w6.cell? ⟨p5, 2, none⟩ = some (.bool false) := S.cell 1 2 rfl rfl
     have b5_3 : w6.cell? ⟨p5, 3, none⟩ = some (.int .i64 tq) := S.cell 1 3 rfl rfl
     have b5_4 : w6.cell? ⟨p5, 4, none⟩ = some (.int .i64 aq) := S.cell 1 4 rfl rfl
     have b5_5 : w6.cell? ⟨p5, 5, none⟩ = some (.bool false) := S.cell 1 5 rfl rfl
     have b5_6 : w6.cell? ⟨p5, 6, none⟩ = some (.int .i64 dq) := S.cell 1 6 rfl rfl
     have b8_0 : w6.cell? ⟨p8, 0, none⟩ = some (.int .i64 0) := S.cell 0 0 rfl rfl
     have zb8_0 : w6.frozen? ⟨p8, 0, none⟩ = false := S.frozen 0 0 rfl
     have b8_1 : w6.cell? ⟨p8, 1, none⟩ = some (.slice none 0 0) := S.cell 0 1 rfl rfl
     have zb8_1 : w6.frozen? ⟨p8, 1, none⟩ = false := S.frozen 0 1 rfl
     have b8_2 : w6.cell? ⟨p8, 2, none⟩ = some (.bool false) := S.cell 0 2 rfl rfl
     have zb8_2 : w6.frozen? ⟨p8, 2, none⟩ = false := S.frozen 0 2 rfl
     have b8_3 : w6.cell? ⟨p8, 3, none⟩ = some (.int .i64 0) := S.cell 0 3 rfl rfl
     have zb8_3 : w6.frozen? ⟨p8, 3, none⟩ = false := S.frozen 0 3 rfl
     have b8_4 : w6.cell? ⟨p8, 4, none⟩ = some (.int .i64 0) := S.cell 0 4 rfl rfl
     have zb8_4 : w6.frozen? ⟨p8, 4, none⟩ = false := S.frozen 0 4 rfl
     have b8_5 : w6.cell? ⟨p8, 5, none⟩ = some (.bool false) := S.cell 0 5 rfl rfl
     have zb8_5 : w6.frozen? ⟨p8, 5, none⟩ = false := S.frozen 0 5 rfl
     have b8_6 : w6.cell? ⟨p8, 6, none⟩ = some (.int .i64 0) := S.cell 0 6 rfl rfl
     have zb8_6 : w6.frozen? ⟨p8, 6, none⟩ = false := S.frozen 0 6 rfl
     go_wp2
     clear b5_0 b5_1 b5_2 b5_3 b5_4 b5_5 b5_6 b8_0 zb8_0 b8_1 zb8_1 b8_2 zb8_2 b8_3 zb8_3 b8_4 zb8_4 b8_5 zb8_5 b8_6 zb8_6
     generalize hg : World.setCell w6 ⟨p8, 0, none⟩ _ = w7
     replace S := S.set 0 hg rfl
     clear hg
     generalize hg : World.setCell w7 ⟨p8, 1, none⟩ _ = w8
     replace S := S.set 0 hg rfl
     clear hg
     generalize hg : World.setCell w8 ⟨p8, 2, none⟩ _ = w9
     replace S := S.set 0 hg rfl
     clear hg
     generalize hg : World.setCell w9 ⟨p8, 3, none⟩ _ = w10
     replace S := S.set 0 hg rfl
     clear hg
     generalize hg : World.setCell w10 ⟨p8, 4, none⟩ _ = w11
     replace S := S.set 0 hg rfl
     clear hg
     generalize hg : World.setCell w11 ⟨p8, 5, none⟩ _ = w12
     replace S := S.set 0 hg rfl
     clear hg
     generalize hg : World.setCell w12 ⟨p8, 6, none⟩ _ = w13
     replace S := S.set 0 hg rfl
     clear hg
     replace S : Kn ok w0 [(p8, .cells #[.int .i64 ss, .slice A' (x :: l).length c', .bool false, .int .i64 tq, .int .i64 aq, .bool false, .int .i64 dq] TLk (0, 0)), (p5, .cells #[.int .i64 ss, .slice A' (x :: l).length c', .bool false, .int .i64 tq, .int .i64 aq, .bool false, .int .i64 dq] TLk (0, 0)), (p4, .cells #[.int .i64 c0, .int .i64 c1, .int .i64 c2, .int .i64 c3] 23 (0, 0))] (u10 : Value) (N kFr TFr w0.heap.size u10 fq) [V kSe (.slice B t.length mc) t, V kCh (.slice A' (x :: l).length c') (x :: l)] w13 := S
     have b6 := S.get 0 rfl
     have hNf : Kd.N kFr TFr w13 w0.heap.size (Fp ok w0 _) u10 fq := S.own
     have hVq := (S.ft 1 rfl)
     have hBe := S.bel
     clear S
     obtain ⟨A2, c2', rfl⟩ : ∃ A c, u10 = .slice A fq.length c := Kd.V_slice (Kd.N_V (base' := 0) hNf)
     refine bodyPost_ret (results_ct rfl _ _ p8 TLk #[.int .i64 ss, .slice A' (x :: l).length c', .bool false, .int .i64 tq, .int .i64 aq, .bool false, .int .i64 dq] (0, 0) _ rfl b6 Try.underlying30 rfl (by kernel_rfl)) rfl ?_
     exact ⟨A', c', A2, c2', rfl, Kd.V_mono (show Kd.V kCh 0 _ 0 _ _ _ from hVq) (fun k hk => hk.1.1), show Kd.V kFr TFr _ 0 _ _ _ from Kd.N_V (Kd.N_mono hNf (fun k hk => hk.1)), hBe⟩
    | true =>
     have hE' := HE.out
     rw [if_pos rfl] at hE'
     have b12_0 : w6.cell? ⟨p12, 0, none⟩ = some (.int .i64 a1) := S.cell 0 0 rfl rfl
     have b12_1 : w6.cell? ⟨p12, 1, none⟩ = some (.int .i64 a2) := S.cell 0 1 rfl rfl
     have b5_3 : w6.cell? ⟨p5, 3, none⟩ = some (.int .i64 tq) := S.cell 2 3 rfl rfl
     have zb5_3 : w6.frozen? ⟨p5, 3, none⟩ = false := S.frozen 2 3 rfl
     have b5_4 : w6.cell? ⟨p5, 4, none⟩ = some (.int .i64 aq) := S.cell 2 4 rfl rfl
     have zb5_4 : w6.frozen? ⟨p5, 4, none⟩ = false := S.frozen 2 4 rfl
     go_upto_region 10 with (fail)
     clear b12_0 b12_1 b5_3 zb5_3 b5_4 zb5_4
     generalize hg : World.setCell w6 ⟨p5, 3, none⟩ _ = w7
     replace S := S.set 2 hg rfl
     clear hg
     generalize hg : World.setCell w7 ⟨p5, 4, none⟩ _ = w8
     replace S := S.set 2 hg rfl
     clear hg
     replace S : Kn ok w0 [(p12, .cells #[.int .i64 a1, .int .i64 a2] 28 (0, 0)), (p8, .cells #[.int .i64 0, .slice none 0 0, .bool false, .int .i64 0, .int .i64 0, .bool false, .int .i64 0] TLk (0, 0)), (p5, .cells #[.int .i64 ss, .slice A' (x :: l).length c', .bool false, .int .i64 a1, .int .i64 a2, .bool false, .int .i64 dq] TLk (0, 0)), (p4, .cells #[.int .i64 c0, .int .i64 c1, .int .i64 c2, .int .i64 c3] 23 (0, 0))] (u10 : Value) (N kFr TFr w0.heap.size u10 fq) [V kSe (.slice B t.length mc) t, V kCh (.slice A' (x :: l).length c') (x :: l)] w8 := S
     have b5_0 : w8.cell? ⟨p5, 0, none⟩ = some (.int .i64 ss) := S.cell 2 0 rfl rfl
     go_upto_region 11 with (fail)
     generalize hg : World.alloc _ _ = w9
     replace S := S.new hg
     clear b5_0 hg
     generalize w8.heap.size = p14 at S ⊢
     replace S : Kn ok w0 [(p14, .cells #[.int .i64 0, .int .i64 ss, .bool false, .string ⟨#[]⟩, .int .i64 0, .int .i64 0, .int .i64 0, .string ⟨#[]⟩, .int .u64 0, .slice none 0 0] TFr (0, 0)), (p12, .cells #[.int .i64 a1, .int .i64 a2] 28 (0, 0)), (p8, .cells #[.int .i64 0, .slice none 0 0, .bool false, .int .i64 0, .int .i64 0, .bool false, .int .i64 0] TLk (0, 0)), (p5, .cells #[.int .i64 ss, .slice A' (x :: l).length c', .bool false, .int .i64 a1, .int .i64 a2, .bool false, .int .i64 dq] TLk (0, 0)), (p4, .cells #[.int .i64 c0, .int .i64 c1, .int .i64 c2, .int .i64 c3] 23 (0, 0))] (u10 : Value) (N kFr TFr w0.heap.size u10 fq) [V kSe (.slice B t.length mc) t, V kCh (.slice A' (x :: l).length c') (x :: l)] w9 := S
     have b5_5 : w9.cell? ⟨p5, 5, none⟩ = some (.bool false) := S.cell 3 5 rfl rfl
     have b5_1 : w9.cell? ⟨p5, 1, none⟩ = some (.slice A' (x :: l).length c') := S.cell 3 1 rfl rfl
     have b5_2 : w9.cell? ⟨p5, 2, none⟩ = some (.bool false) := S.cell 3 2 rfl rfl
     go_wp2_with fail
     refine (rollcallref17_Pop.kn HPp.out (S.ft 1 rfl)).mono ?_
     rintro e w10 ⟨A3, c3', rfl, hV, hb⟩
     replace S := S.call (f := (V kCh (.slice A3 l.length c3') l)) hb hV
     clear b5_5 b5_1 b5_2 hb hV HPp
     go_upto_region 18 with (fail)
     generalize hg : World.alloc _ _ = w11
     replace S := S.new2 hg
     clear hg
     generalize w10.heap.size + 1 = p16 at S ⊢
     generalize w10.heap.size = p15 at S ⊢
     replace S : Kn ok w0 [(p16, .cells #[.slice A3 l.length c3', .bool false] 26 (0, 0)), (p15, .cells #[.string x.f0, .bool x.f1, .int .i64 x.f2.f0, .int .i64 x.f2.f1, .int .i64 x.f2.f2, .string x.f2.f3] TCh (0, 0)), (p14, .cells #[.int .i64 0, .int .i64 ss, .bool false, .string ⟨#[]⟩, .int .i64 0, .int .i64 0, .int .i64 0, .string ⟨#[]⟩, .int .u64 0, .slice none 0 0] TFr (0, 0)), (p12, .cells #[.int .i64 a1, .int .i64 a2] 28 (0, 0)), (p8, .cells #[.int .i64 0, .slice none 0 0, .bool false, .int .i64 0, .int .i64 0, .bool false, .int .i64 0] TLk (0, 0)), (p5, .cells #[.int .i64 ss, .slice A' (x :: l).length c', .bool false, .int .i64 a1, .int .i64 a2, .bool false, .int .i64 dq] TLk (0, 0)), (p4, .cells #[.int .i64 c0, .int .i64 c1, .int .i64 c2, .int .i64 c3] 23 (0, 0))] (u10 : Value) (N kFr TFr w0.heap.size u10 fq) [V kCh (.slice A3 l.length c3') l, V kSe (.slice B t.length mc) t, V kCh (.slice A' (x :: l).length c') (x :: l)] w11 := S
     have b14_0 : w11.cell? ⟨p14, 0, none⟩ = some (.int .i64 0) := S.cell 2 0 rfl rfl
     have zb14_0 : w11.frozen? ⟨p14, 0, none⟩ = false := S.frozen 2 0 rfl
     go_upto_region 19 with (fail)
     clear b14_0 zb14_0
     generalize hg : World.setCell w11 ⟨p14, 0, none⟩ _ = w12
     replace S := S.set 2 hg rfl
     clear hg
     replace S : Kn ok w0 [(p16, .cells #[.slice A3 l.length c3', .bool false] 26 (0, 0)), (p15, .cells #[.string x.f0, .bool x.f1, .int .i64 x.f2.f0, .int .i64 x.f2.f1, .int .i64 x.f2.f2, .string x.f2.f3] TCh (0, 0)), (p14, .cells #[.int .i64 1, .int .i64 ss, .bool false, .string ⟨#[]⟩, .int .i64 0, .int .i64 0, .int .i64 0, .string ⟨#[]⟩, .int .u64 0, .slice none 0 0] TFr (0, 0)), (p12, .cells #[.int .i64 a1, .int .i64 a2] 28 (0, 0)), (p8, .cells #[.int .i64 0, .slice none 0 0, .bool false, .int .i64 0, .int .i64 0, .bool false, .int .i64 0] TLk (0, 0)), (p5, .cells #[.int .i64 ss, .slice A' (x :: l).length c', .bool false, .int .i64 a1, .int .i64 a2, .bool false, .int .i64 dq] TLk (0, 0)), (p4, .cells #[.int .i64 c0, .int .i64 c1, .int .i64 c2, .int .i64 c3] 23 (0, 0))] (u10 : Value) (N kFr TFr w0.heap.size u10 fq) [V kCh (.slice A3 l.length c3') l, V kSe (.slice B t.length mc) t, V kCh (.slice A' (x :: l).length c') (x :: l)] w12 := S
     have b15_0 : w12.cell? ⟨p15, 0, none⟩ = some (.string x.f0) := S.cell 1 0 rfl rfl
     have b14_3 : w12.cell? ⟨p14, 3, none⟩ = some (.string ⟨#[]⟩) := S.cell 2 3 rfl rfl
     have zb14_3 : w12.frozen? ⟨p14, 3, none⟩ = false := S.frozen 2 3 rfl
     go_upto_region 20 with (fail)
     clear b15_0 b14_3 zb14_3
     generalize hg : World.setCell w12 ⟨p14, 3, none⟩ _ = w13
     replace S := S.set 2 hg rfl
     clear hg
     replace S : Kn ok w0 [(p16, .cells #[.slice A3 l.length c3', .bool false] 26 (0, 0)), (p15, .cells #[.string x.f0, .bool x.f1, .int .i64 x.f2.f0, .int .i64 x.f2.f1, .int .i64 x.f2.f2, .string x.f2.f3] TCh (0, 0)), (p14, .cells #[.int .i64 1, .int .i64 ss, .bool false, .string x.f0, .int .i64 0, .int .i64 0, .int .i64 0, .string ⟨#[]⟩, .int .u64 0, .slice none 0 0] TFr (0, 0)), (p12, .cells #[.int .i64 a1, .int .i64 a2] 28 (0, 0)), (p8, .cells #[.int .i64 0, .slice none 0 0, .bool false, .int .i64 0, .int .i64 0, .bool false, .int .i64 0] TLk (0, 0)), (p5, .cells #[.int .i64 ss, .slice A' (x :: l).length c', .bool false, .int .i64 a1, .int .i64 a2, .bool false, .int .i64 dq] TLk (0, 0)), (p4, .cells #[.int .i64 c0, .int .i64 c1, .int .i64 c2, .int .i64 c3] 23 (0, 0))] (u10 : Value) (N kFr TFr w0.heap.size u10 fq) [V kCh (.slice A3 l.length c3') l, V kSe (.slice B t.length mc) t, V kCh (.slice A' (x :: l).length c') (x :: l)] w13 := S
     have b15_1 : w13.cell? ⟨p15, 1, none⟩ = some (.bool x.f1) := S.cell 1 1 rfl rfl
     have b14_2 : w13.cell? ⟨p14, 2, none⟩ = some (.bool false) := S.cell 2 2 rfl rfl
     have zb14_2 : w13.frozen? ⟨p14, 2, none⟩ = false := S.frozen 2 2 rfl
     go_upto_region 21 with (fail)
     clear b15_1 b14_2 zb14_2
     generalize hg : World.setCell w13 ⟨p14, 2, none⟩ _ = w14
     replace S := S.set 2 hg rfl
     clear hg
     replace S : Kn ok w0 [(p16, .cells #[.slice A3 l.length c3', .bool false] 26 (0, 0)), (p15, .cells #[.string x.f0, .bool x.f1, .int .i64 x.f2.f0, .int .i64 x.f2.f1, .int .i64 x.f2.f2, .string x.f2.f3] TCh (0, 0)), (p14, .cells #[.int .i64 1, .int .i64 ss, .bool x.f1, .string x.f0, .int .i64 0, .int .i64 0, .int .i64 0, .string ⟨#[]⟩, .int .u64 0, .slice none 0 0] TFr (0, 0)), (p12, .cells #[.int .i64 a1, .int .i64 a2] 28 (0, 0)), (p8, .cells #[.int .i64 0, .slice none 0 0, .bool false, .int .i64 0, .int .i64 0, .bool false, .int .i64 0] TLk (0, 0)), (p5, .cells #[.int .i64 ss, .slice A' (x :: l).length c', .bool false, .int .i64 a1, .int .i64 a2, .bool false, .int .i64 dq] TLk (0, 0)), (p4, .cells #[.int .i64 c0, .int .i64 c1, .int .i64 c2, .int .i64 c3] 23 (0, 0))] (u10 : Value) (N kFr TFr w0.heap.size u10 fq) [V kCh (.slice A3 l.length c3') l, V kSe (.slice B t.length mc) t, V kCh (.slice A' (x :: l).length c') (x :: l)] w14 := S
     have b15_2 : w14.cell? ⟨p15, 2, none⟩ = some (.int .i64 x.f2.f0) := S.cell 1 2 rfl rfl
     have b15_3 : w14.cell? ⟨p15, 3, none⟩ = some (.int .i64 x.f2.f1) := S.cell 1 3 rfl rfl
     have b15_4 : w14.cell? ⟨p15, 4, none⟩ = some (.int .i64 x.f2.f2) := S.cell 1 4 rfl rfl
     have b15_5 : w14.cell? ⟨p15, 5, none⟩ = some (.string x.f2.f3) := S.cell 1 5 rfl rfl
     have b14_4 : w14.cell? ⟨p14, 4, none⟩ = some (.int .i64 0) := S.cell 2 4 rfl rfl
     have zb14_4 : w14.frozen? ⟨p14, 4, none⟩ = false := S.frozen 2 4 rfl
     have b14_5 : w14.cell? ⟨p14, 5, none⟩ = some (.int .i64 0) := S.cell 2 5 rfl rfl
     have zb14_5 : w14.frozen? ⟨p14, 5, none⟩ = false := S.frozen 2 5 rfl
     have b14_6 : w14.cell? ⟨p14, 6, none⟩ = some (.int .i64 0) := S.cell 2 6 rfl rfl
     have zb14_6 : w14.frozen? ⟨p14, 6, none⟩ = false := S.frozen 2 6 rfl
     have b14_7 : w14.cell? ⟨p14, 7, none⟩ = some (.string ⟨#[]⟩) := S.cell 2 7 rfl rfl
     have zb14_7 : w14.frozen? ⟨p14, 7, none⟩ = false := S.frozen 2 7 rfl
     go_upto_region 22 with (fail)
     clear b15_2 b15_3 b15_4 b15_5 b14_4 zb14_4 b14_5 zb14_5 b14_6 zb14_6 b14_7 zb14_7
     generalize hg : World.setCell w14 ⟨p14, 4, none⟩ _ = w15
     replace S := S.set 2 hg rfl
     clear hg
     generalize hg : World.setCell w15 ⟨p14, 5, none⟩ _ = w16
     replace S := S.set 2 hg rfl
     clear hg
     generalize hg : World.setCell w16 ⟨p14, 6, none⟩ _ = w17
     replace S := S.set 2 hg rfl
     clear hg
     generalize hg : World.setCell w17 ⟨p14, 7, none⟩ _ = w18
     replace S := S.set 2 hg rfl
     clear hg
     replace S : Kn ok w0 [(p16, .cells #[.slice A3 l.length c3', .bool false] 26 (0, 0)), (p15, .cells #[.string x.f0, .bool x.f1, .int .i64 x.f2.f0, .int .i64 x.f2.f1, .int .i64 x.f2.f2, .string x.f2.f3] TCh (0, 0)), (p14, .cells #[.int .i64 1, .int .i64 ss, .bool x.f1, .string x.f0, .int .i64 x.f2.f0, .int .i64 x.f2.f1, .int .i64 x.f2.f2, .string x.f2.f3, .int .u64 0, .slice none 0 0] TFr (0, 0)), (p12, .cells #[.int .i64 a1, .int .i64 a2] 28 (0, 0)), (p8, .cells #[.int .i64 0, .slice none 0 0, .bool false, .int .i64 0, .int .i64 0, .bool false, .int .i64 0] TLk (0, 0)), (p5, .cells #[.int .i64 ss, .slice A' (x :: l).length c', .bool false, .int .i64 a1, .int .i64 a2, .bool false, .int .i64 dq] TLk (0, 0)), (p4, .cells #[.int .i64 c0, .int .i64 c1, .int .i64 c2, .int .i64 c3] 23 (0, 0))] (u10 : Value) (N kFr TFr w0.heap.size u10 fq) [V kCh (.slice A3 l.length c3') l, V kSe (.slice B t.length mc) t, V kCh (.slice A' (x :: l).length c') (x :: l)] w18 := S
     have b16_0 : w18.cell? ⟨p16, 0, none⟩ = some (.slice A3 l.length c3') := S.cell 0 0 rfl rfl
     have b16_1 : w18.cell? ⟨p16, 1, none⟩ = some (.bool false) := S.cell 0 1 rfl rfl
     have b5_1 : w18.cell? ⟨p5, 1, none⟩ = some (.slice A' (x :: l).length c') := S.cell 5 1 rfl rfl
     have zb5_1 : w18.frozen? ⟨p5, 1, none⟩ = false := S.frozen 5 1 rfl
     have b5_2 : w18.cell? ⟨p5, 2, none⟩ = some (.bool false) := S.cell 5 2 rfl rfl
     have zb5_2 : w18.frozen? ⟨p5, 2, none⟩ = false := S.frozen 5 2 rfl
     go_upto_region 26 with (fail)
     clear b16_0 b16_1 b5_1 zb5_1 b5_2 zb5_2
     generalize hg : World.setCell w18 ⟨p5, 1, none⟩ _ = w19
     replace S := S.set 5 hg rfl
     clear hg
     generalize hg : World.setCell w19 ⟨p5, 2, none⟩ _ = w20
     replace S := S.set 5 hg rfl
     clear hg
     replace S : Kn ok w0 [(p16, .cells #[.slice A3 l.length c3', .bool false] 26 (0, 0)), (p15, .cells #[.string x.f0, .bool x.f1, .int .i64 x.f2.f0, .int .i64 x.f2.f1, .int .i64 x.f2.f2, .string x.f2.f3] TCh (0, 0)), (p14, .cells #[.int .i64 1, .int .i64 ss, .bool x.f1, .string x.f0, .int .i64 x.f2.f0, .int .i64 x.f2.f1, .int .i64 x.f2.f2, .string x.f2.f3, .int .u64 0, .slice none 0 0] TFr (0, 0)), (p12, .cells #[.int .i64 a1, .int .i64 a2] 28 (0, 0)), (p8, .cells #[.int .i64 0, .slice none 0 0, .bool false, .int .i64 0, .int .i64 0, .bool false, .int .i64 0] TLk (0, 0)), (p5, .cells #[.int .i64 ss, .slice A3 l.length c3', .bool false, .int .i64 a1, .int .i64 a2, .bool false, .int .i64 dq] TLk (0, 0)), (p4, .cells #[.int .i64 c0, .int .i64 c1, .int .i64 c2, .int .i64 c3] 23 (0, 0))] (u10 : Value) (N kFr TFr w0.heap.size u10 fq) [V kCh (.slice A3 l.length c3') l, V kSe (.slice B t.length mc) t, V kCh (.slice A' (x :: l).length c') (x :: l)] w20 := S
     replace S : Kn ok w0 [(p16, .cells #[.slice A3 l.length c3', .bool false] 26 (0, 0)), (p15, .cells #[.string x.f0, .bool x.f1, .int .i64 x.f2.f0, .int .i64 x.f2.f1, .int .i64 x.f2.f2, .string x.f2.f3] TCh (0, 0)), (p14, .cells #[.int .i64 1, .int .i64 ss, .bool x.f1, .string x.f0, .int .i64 x.f2.f0, .int .i64 x.f2.f1, .int .i64 x.f2.f2, .string x.f2.f3, .int .u64 0, .slice none 0 0] TFr (0, 0)), (p12, .cells #[.int .i64 a1, .int .i64 a2] 28 (0, 0)), (p8, .cells #[.int .i64 0, .slice none 0 0, .bool false, .int .i64 0, .int .i64 0, .bool false, .int .i64 0] TLk (0, 0)), (p5, .cells #[.int .i64 ss, .slice A3 l.length c3', .bool false, .int .i64 a1, .int .i64 a2, .bool false, .int .i64 dq] TLk (0, 0)), (p4, .cells #[.int .i64 c0, .int .i64 c1, .int .i64 c2, .int .i64 c3] 23 (0, 0))] (u10 : Value) (N kFr TFr w0.heap.size u10 fq) [V kSe (.slice B t.length mc) t, V kCh (.slice A3 l.length c3') l] w20 := S.sub (by simp)
     have b14_0 : w20.cell? ⟨p14, 0, none⟩ = some (.int .i64 1) := S.cell 2 0 rfl rfl
     have b14_1 : w20.cell? ⟨p14, 1, none⟩ = some (.int .i64 ss) := S.cell 2 1 rfl rfl
     have b14_2 : w20.cell? ⟨p14, 2, none⟩ = some (.bool x.f1) := S.cell 2 2 rfl rfl
     have b14_3 : w20.cell? ⟨p14, 3, none⟩ = some (.string x.f0) := S.cell 2 3 rfl rfl
     have b14_4 : w20.cell? ⟨p14, 4, none⟩ = some (.int .i64 x.f2.f0) := S.cell 2 4 rfl rfl
     have b14_5 : w20.cell? ⟨p14, 5, none⟩ = some (.int .i64 x.f2.f1) := S.cell 2 5 rfl rfl
     have b14_6 : w20.cell? ⟨p14, 6, none⟩ = some (.int .i64 x.f2.f2) := S.cell 2 6 rfl rfl
     have b14_7 : w20.cell? ⟨p14, 7, none⟩ = some (.string x.f2.f3) := S.cell 2 7 rfl rfl
     have b14_8 : w20.cell? ⟨p14, 8, none⟩ = some (.int .u64 0) := S.cell 2 8 rfl rfl
     have b14_9 : w20.cell? ⟨p14, 9, none⟩ = some (.slice none 0 0) := S.cell 2 9 rfl rfl
     have hVt := (S.ft 0 rfl)
     have hfk : Kd.FK kFr w20 (Ap ok w0 [(p16, .cells #[.slice A3 l.length c3', .bool false] 26 (0, 0)), (p15, .cells #[.string x.f0, .bool x.f1, .int .i64 x.f2.f0, .int .i64 x.f2.f1, .int .i64 x.f2.f2, .string x.f2.f3] TCh (0, 0)), (p14, .cells #[.int .i64 1, .int .i64 ss, .bool x.f1, .string x.f0, .int .i64 x.f2.f0, .int .i64 x.f2.f1, .int .i64 x.f2.f2, .string x.f2.f3, .int .u64 0, .slice none 0 0] TFr (0, 0)), (p12, .cells #[.int .i64 a1, .int .i64 a2] 28 (0, 0)), (p8, .cells #[.int .i64 0, .slice none 0 0, .bool false, .int .i64 0, .int .i64 0, .bool false, .int .i64 0] TLk (0, 0)), (p5, .cells #[.int .i64 ss, .slice A3 l.length c3', .bool false, .int .i64 a1, .int .i64 a2, .bool false, .int .i64 dq] TLk (0, 0)), (p4, .cells #[.int .i64 c0, .int .i64 c1, .int .i64 c2, .int .i64 c3] 23 (0, 0))] u10) (⟨1, ss, x.f1, x.f0, ⟨x.f2.f0, x.f2.f1, x.f2.f2, x.f2.f3⟩, 0, []⟩ : Fr) [.int .i64 1, .int .i64 ss, .bool x.f1, .string x.f0, .int .i64 x.f2.f0, .int .i64 x.f2.f1, .int .i64 x.f2.f2, .string x.f2.f3, .int .u64 0, .slice none 0 0] := k60_mkF _ _ (⟨1, ss, x.f1, x.f0, ⟨x.f2.f0, x.f2.f1, x.f2.f2, x.f2.f3⟩, 0, []⟩ : Fr) (A9 := none) (c9 := 0) (Nat.le_refl _) (Kd.V_at (Kd.V_nil kSe 0 _ 0 _)).2.2
     have HS := Aside0.mk S
     have HP := Aside0.mk hfk
     clear S hVt hfk
     go_upto_region 27 with ((with_reducible refine gate_builtin (b := .append) (xs := #[.tmp 110, .tmp 112]) rfl ?_); (try (refine gate_guard (by rfl) ?_; dsimp only)); at_builtin; refine Kd.N_append kFr (w0 := w0) w0.heap.size rfl (.tmp 110) (.tmp 112) 50 60 (.agg #[(.int .i64 0), (.int .i64 0), (.bool false), (.string ⟨#[]⟩), (.int .i64 0), (.int .i64 0), (.int .i64 0), (.string ⟨#[]⟩), (.int .u64 0), (.slice none 0 0)]) 112 rfl Try.underlying50 info_fr rfl (by decide) (by omega) u10 fq (⟨1, ss, x.f1, x.f0, ⟨x.f2.f0, x.f2.f1, x.f2.f2, x.f2.f3⟩, 0, []⟩ : Fr) [.int .i64 1, .int .i64 ss, .bool x.f1, .string x.f0, .int .i64 x.f2.f0, .int .i64 x.f2.f1, .int .i64 x.f2.f2, .string x.f2.f3, .int .u64 0, .slice none 0 0] (Fp ok w0 _) (Ap ok w0 _ u10) rfl rfl HP.out (fun _ hk => hk) ?aF HS.out.own HS.out.bel HS.out.bel.size ?aL ?_; (case aF => exact (fun k hk => ⟨.inr (Nat.le_trans HS.out.bel.size hk), fun x hx => by have := HS.out.lt hx; omega⟩)); (case aL => have := HI.out; have := HK.out; omega); intro v1 y1 ho hb hg hat)
     have S := HS.out.grown (U' := N kFr TFr w0.heap.size v1 (fq ++ [(⟨1, ss, x.f1, x.f0, ⟨x.f2.f0, x.f2.f1, x.f2.f2, x.f2.f3⟩, 0, []⟩ : Fr)])) ho hb hg hat (Kd.N_lt ho)
     clear HS HP ho hb hg hat
     clear b14_0 b14_1 b14_2 b14_3 b14_4 b14_5 b14_6 b14_7 b14_8 b14_9
     replace S : Kn ok w0 [(p16, .cells #[.slice A3 l.length c3', .bool false] 26 (0, 0)), (p15, .cells #[.string x.f0, .bool x.f1, .int .i64 x.f2.f0, .int .i64 x.f2.f1, .int .i64 x.f2.f2, .string x.f2.f3] TCh (0, 0)), (p14, .cells #[.int .i64 1, .int .i64 ss, .bool x.f1, .string x.f0, .int .i64 x.f2.f0, .int .i64 x.f2.f1, .int .i64 x.f2.f2, .string x.f2.f3, .int .u64 0, .slice none 0 0] TFr (0, 0)), (p12, .cells #[.int .i64 a1, .int .i64 a2] 28 (0, 0)), (p8, .cells #[.int .i64 0, .slice none 0 0, .bool false, .int .i64 0, .int .i64 0, .bool false, .int .i64 0] TLk (0, 0)), (p5, .cells #[.int .i64 ss, .slice A3 l.length c3', .bool false, .int .i64 a1, .int .i64 a2, .bool false, .int .i64 dq] TLk (0, 0)), (p4, .cells #[.int .i64 c0, .int .i64 c1, .int .i64 c2, .int .i64 c3] 23 (0, 0))] v1 (N kFr TFr w0.heap.size v1 (fq ++ [(⟨1, ss, x.f1, x.f0, ⟨x.f2.f0, x.f2.f1, x.f2.f2, x.f2.f3⟩, 0, []⟩ : Fr)])) [V kSe (.slice B t.length mc) t, V kCh (.slice A3 l.length c3') l] y1 := S
     have b5_0 : y1.cell? ⟨p5, 0, none⟩ = some (.int .i64 ss) := S.cell 5 0 rfl rfl
     have zb5_0 : y1.frozen? ⟨p5, 0, none⟩ = false := S.frozen 5 0 rfl
     go_wp2
     clear b5_0 zb5_0
     generalize hg : World.setCell y1 ⟨p5, 0, none⟩ _ = w21
     replace S := S.set 5 hg rfl
     clear hg
     replace S : Kn ok w0 [(p16, .cells #[.slice A3 l.length c3', .bool false] 26 (0, 0)), (p15, .cells #[.string x.f0, .bool x.f1, .int .i64 x.f2.f0, .int .i64 x.f2.f1, .int .i64 x.f2.f2, .string x.f2.f3] TCh (0, 0)), (p14, .cells #[.int .i64 1, .int .i64 ss, .bool x.f1, .string x.f0, .int .i64 x.f2.f0, .int .i64 x.f2.f1, .int .i64 x.f2.f2, .string x.f2.f3, .int .u64 0, .slice none 0 0] TFr (0, 0)), (p12, .cells #[.int .i64 a1, .int .i64 a2] 28 (0, 0)), (p8, .cells #[.int .i64 0, .slice none 0 0, .bool false, .int .i64 0, .int .i64 0, .bool false, .int .i64 0] TLk (0, 0)), (p5, .cells #[.int .i64 (ss + 1), .slice A3 l.length c3', .bool false, .int .i64 a1, .int .i64 a2, .bool false, .int .i64 dq] TLk (0, 0)), (p4, .cells #[.int .i64 c0, .int .i64 c1, .int .i64 c2, .int .i64 c3] 23 (0, 0))] v1 (N kFr TFr w0.heap.size v1 (fq ++ [(⟨1, ss, x.f1, x.f0, ⟨x.f2.f0, x.f2.f1, x.f2.f2, x.f2.f3⟩, 0, []⟩ : Fr)])) [V kSe (.slice B t.length mc) t, V kCh (.slice A3 l.length c3') l] w21 := S
     replace S := S.pop 4
     replace S : Kn ok w0 [(p8, .cells #[.int .i64 0, .slice none 0 0, .bool false, .int .i64 0, .int .i64 0, .bool false, .int .i64 0] TLk (0, 0)), (p5, .cells #[.int .i64 (ss + 1), .slice A3 l.length c3', .bool false, .int .i64 a1, .int .i64 a2, .bool false, .int .i64 dq] TLk (0, 0)), (p4, .cells #[.int .i64 c0, .int .i64 c1, .int .i64 c2, .int .i64 c3] 23 (0, 0))] v1 (N kFr TFr w0.heap.size v1 (fq ++ [(⟨1, ss, x.f1, x.f0, ⟨x.f2.f0, x.f2.f1, x.f2.f2, x.f2.f3⟩, 0, []⟩ : Fr)])) [V kSe (.slice B t.length mc) t, V kCh (.slice A3 l.length c3') l] w21 := S
     go_roundg g
     case measure => omega
     case rel => exact ⟨⟨ss + 1, l, false, a1, a2, dq, fq ++ [(⟨1, ss, x.f1, x.f0, ⟨x.f2.f0, x.f2.f1, x.f2.f2, x.f2.f3⟩, 0, []⟩ : Fr)]⟩, A3, c3', ⟨hE'⟩, ⟨by have := HI.out; have := HN.out; refine ⟨?_, ?_, ?_, ?_, ?_⟩ <;> simp only [List.length_append, List.length_cons, List.length_nil] at * <;> omega⟩, ⟨S⟩⟩
   | nil =>
    have hdd : ¬ now - dq < c3 := fun h => hno ⟨rfl, rfl, h⟩
    have hE' := HE.out
    rw [show nextP c3 now t ⟨ss, [], false, tq, aq, dq, fq⟩ = some (⟨2, ss, false, ⟨#[]⟩, ⟨0, 0, 0, ⟨#[]⟩⟩, sumB t, []⟩, [], false, now) by simp [nextP, hdd]] at hE'
    dsimp only at hE'
    replace HE := Aside0.mk hE'
    clear hE' hno
    have hdd' : c3 ≤ now - dq := by omega
    clear hdd
    have HSm := Aside0.mk (refSum_b 6000 t HM.out (by omega))
    clear b5_0
    replace S : Kn ok w0 [(p8, .cells #[.int .i64 0, .slice none 0 0, .bool false, .int .i64 0, .int .i64 0, .bool false, .int .i64 0] TLk (0, 0)), (p5, .cells #[.int .i64 ss, .slice A' ([] : List Ch).length c', .bool false, .int .i64 tq, .int .i64 aq, .bool false, .int .i64 dq] TLk (0, 0)), (p4, .cells #[.int .i64 c0, .int .i64 c1, .int .i64 c2, .int .i64 c3] 23 (0, 0))] (u10 : Value) (N kFr TFr w0.heap.size u10 fq) [V kSe (.slice B t.length mc) t, V kCh (.slice A' ([] : List Ch).length c') ([] : List Ch)] wr := S
    have b4_3 : wr.cell? ⟨p4, 3, none⟩ = some (.int .i64 c3) := S.cell 2 3 rfl rfl
    have b5_1 : wr.cell? ⟨p5, 1, none⟩ = some (.slice A' ([] : List Ch).length c') := S.cell 1 1 rfl rfl
    have b5_5 : wr.cell? ⟨p5, 5, none⟩ = some (.bool false) := S.cell 1 5 rfl rfl
    have b5_6 : wr.cell? ⟨p5, 6, none⟩ = some (.int .i64 dq) := S.cell 1 6 rfl rfl
    have b4_0 : wr.cell? ⟨p4, 0, none⟩ = some (.int .i64 c0) := S.cell 2 0 rfl rfl
    have b4_1 : wr.cell? ⟨p4, 1, none⟩ = some (.int .i64 c1) := S.cell 2 1 rfl rfl
    have b4_2 : wr.cell? ⟨p4, 2, none⟩ = some (.int .i64 c2) := S.cell 2 2 rfl rfl
    have b5_0 : wr.cell? ⟨p5, 0, none⟩ = some (.int .i64 ss) := S.cell 1 0 rfl rfl
    have b5_2 : wr.cell? ⟨p5, 2, none⟩ = some (.bool false) := S.cell 1 2 rfl rfl
    have b5_3 : wr.cell? ⟨p5, 3, none⟩ = some (.int .i64 tq) := S.cell 1 3 rfl rfl
    have b5_4 : wr.cell? ⟨p5, 4, none⟩ = some (.int .i64 aq) := S.cell 1 4 rfl rfl
    go_wp2_with fail
    refine (rollcallref16_Take.kn 9 HT.out).mono ?_
    rintro e w5 ⟨rfl, hb⟩
    replace S := S.below hb
    clear b4_3 b5_1 b5_5 b5_6 b4_0 b4_1 b4_2 b5_0 b5_2 b5_3 b5_4 hb HT
    go_upto_region 8 with (fail)
    generalize hg : World.alloc _ _ = w6
    replace S := S.new hg
    clear hg
    generalize w5.heap.size = p12 at S ⊢
    replace S : Kn ok w0 [(p12, .cells #[.int .i64 a1, .int .i64 a2] 28 (0, 0)), (p8, .cells #[.int .i64 0, .slice none 0 0, .bool false, .int .i64 0, .int .i64 0, .bool false, .int .i64 0] TLk (0, 0)), (p5, .cells #[.int .i64 ss, .slice A' ([] : List Ch).length c', .bool false, .int .i64 tq, .int .i64 aq, .bool false, .int .i64 dq] TLk (0, 0)), (p4, .cells #[.int .i64 c0, .int .i64 c1, .int .i64 c2, .int .i64 c3] 23 (0, 0))] (u10 : Value) (N kFr TFr w0.heap.size u10 fq) [V kSe (.slice B t.length mc) t, V kCh (.slice A' ([] : List Ch).length c') ([] : List Ch)] w6 := S
    cases a3 with
    | false =>
     have hE' := HE.out
     rw [if_neg (by simp)] at hE'
     obtain rfl := Option.some.inj hE'
     clear HE hE'
     replace S := S.pop 1
     replace S : Kn ok w0 [(p8, .cells #[.int .i64 0, .slice none 0 0, .bool false, .int .i64 0, .int .i64 0, .bool false, .int .i64 0] TLk (0, 0)), (p5, .cells #[.int .i64 ss, .slice A' ([] : List Ch).length c', .bool false, .int .i64 tq, .int .i64 aq, .bool false, .int .i64 dq] TLk (0, 0)), (p4, .cells #[.int .i64 c0, .int .i64 c1, .int .i64 c2, .int .i64 c3] 23 (0, 0))] (u10 : Value) (N kFr TFr w0.heap.size u10 fq) [V kSe (.slice B t.length mc) t, V kCh (.slice A' ([] : List Ch).length c') ([] : List Ch)] w6 := S
     have b5_0 : w6.cell? ⟨p5, 0, none⟩ = some (.int .i64 ss) := S.cell 1 0 rfl rfl
     have b5_1 : w6.cell? ⟨p5, 1, none⟩ = some (.slice A' ([] : List Ch).length c') := S.cell 1 1 rfl rfl
     have b5_2 : w6.cell? ⟨p5, 2, none⟩ = some (.bool false) := S.cell 1 2 rfl rfl
     have b5_3 : w6.cell? ⟨p5, 3, none⟩ = some (.int .i64 tq) := S.cell 1 3 rfl rfl
     have b5_4 : w6.cell? ⟨p5, 4, none⟩ = some (.int .i64 aq) := S.cell 1 4 rfl rfl
     have b5_5 : w6.cell? ⟨p5, 5, none⟩ = some (.bool false) := S.cell 1 5 rfl rfl
     have b5_6 : w6.cell? ⟨p5, 6, none⟩ = some (.int .i64 dq) := S.cell 1 6 rfl rfl
     have b8_0 : w6.cell? ⟨p8, 0, none⟩ = some (.int .i64 0) := S.cell 0 0 rfl rfl
     have zb8_0 : w6.frozen? ⟨p8, 0, none⟩ = false := S.frozen 0 0 rfl
     have b8_1 : w6.cell? ⟨p8, 1, none⟩ = some (.slice none 0 0) := S.cell 0 1 rfl rfl
     have zb8_1 : w6.frozen? ⟨p8, 1, none⟩ = false := S.frozen 0 1 rfl
     have b8_2 : w6.cell? ⟨p8, 2, none⟩ = some (.bool false) := S.cell 0 2 rfl rfl
     have zb8_2 : w6.frozen? ⟨p8, 2, none⟩ = false := S.frozen 0 2 rfl
     have b8_3 : w6.cell? ⟨p8, 3, none⟩ = some (.int .i64 0) := S.cell 0 3 rfl rfl
     have zb8_3 : w6.frozen? ⟨p8, 3, none⟩ = false := S.frozen 0 3 rfl
     have b8_4 : w6.cell? ⟨p8, 4, none⟩ = some (.int .i64 0) := S.cell 0 4 rfl rfl
     have zb8_4 : w6.frozen? ⟨p8, 4, none⟩ = false := S.frozen 0 4 rfl
     have b8_5 : w6.cell? ⟨p8, 5, none⟩ = some (.bool false) := S.cell 0 5 rfl rfl
     have zb8_5 : w6.frozen? ⟨p8, 5, none⟩ = false := S.frozen 0 5 rfl
     have b8_6 : w6.cell? ⟨p8, 6, none⟩ = some (.int .i64 0) := S.cell 0 6 rfl rfl
     have zb8_6 : w6.frozen? ⟨p8, 6, none⟩ = false := S.frozen 0 6 rfl
     go_wp2
     clear b5_0 b5_1 b5_2 b5_3 b5_4 b5_5 b5_6 b8_0 zb8_0 b8_1 zb8_1 b8_2 zb8_2 b8_3 zb8_3 b8_4 zb8_4 b8_5 zb8_5 b8_6 zb8_6
     generalize hg : World.setCell w6 ⟨p8, 0, none⟩ _ = w7
     replace S := S.set 0 hg rfl
     clear hg
     generalize hg : World.setCell w7 ⟨p8, 1, none⟩ _ = w8
     replace S := S.set 0 hg rfl
     clear hg
     generalize hg : World.setCell w8 ⟨p8, 2, none⟩ _ = w9
     replace S := S.set 0 hg rfl
     clear hg
     generalize hg : World.setCell w9 ⟨p8, 3, none⟩ _ = w10
     replace S := S.set 0 hg rfl
     clear hg
     generalize hg : World.setCell w10 ⟨p8, 4, none⟩ _ = w11
     replace S := S.set 0 hg rfl
     clear hg
     generalize hg : World.setCell w11 ⟨p8, 5, none⟩ _ = w12
     replace S := S.set 0 hg rfl
     clear hg
     generalize hg : World.setCell w12 ⟨p8, 6, none⟩ _ = w13
     replace S := S.set 0 hg rfl
     clear hg
     replace S : Kn ok w0 [(p8, .cells #[.int .i64 ss, .slice A' ([] : List Ch).length c', .bool false, .int .i64 tq, .int .i64 aq, .bool false, .int .i64 dq] TLk (0, 0)), (p5, .cells #[.int .i64 ss, .slice A' ([] : List Ch).length c', .bool false, .int .i64 tq, .int .i64 aq, .bool false, .int .i64 dq] TLk (0, 0)), (p4, .cells #[.int .i64 c0, .int .i64 c1, .int .i64 c2, .int .i64 c3] 23 (0, 0))] (u10 : Value) (N kFr TFr w0.heap.size u10 fq) [V kSe (.slice B t.length mc) t, V kCh (.slice A' ([] : List Ch).length c') ([] : List Ch)] w13 := S
     have b6 := S.get 0 rfl
     have hNf : Kd.N kFr TFr w13 w0.heap.size (Fp ok w0 _) u10 fq := S.own
     have hVq := (S.ft 1 rfl)
     have hBe := S.bel
     clear S
     obtain ⟨A2, c2', rfl⟩ : ∃ A c, u10 = .slice A fq.length c := Kd.V_slice (Kd.N_V (base' := 0) hNf)
     refine bodyPost_ret (results_ct rfl _ _ p8 TLk #[.int .i64 ss, .slice A' ([] : List Ch).length c', .bool false, .int .i64 tq, .int .i64 aq, .bool false, .int .i64 dq] (0, 0) _ rfl b6 Try.underlying30 rfl (by kernel_rfl)) rfl ?_
     exact ⟨A', c', A2, c2', rfl, Kd.V_mono (show Kd.V kCh 0 _ 0 _ _ _ from hVq) (fun k hk => hk.1.1), show Kd.V kFr TFr _ 0 _ _ _ from Kd.N_V (Kd.N_mono hNf (fun k hk => hk.1)), hBe⟩
    | true =>
     have hE' := HE.out
     rw [if_pos rfl] at hE'
     have b12_0 : w6.cell? ⟨p12, 0, none⟩ = some (.int .i64 a1) := S.cell 0 0 rfl rfl
     have b12_1 : w6.cell? ⟨p12, 1, none⟩ = some (.int .i64 a2) := S.cell 0 1 rfl rfl
     have b5_3 : w6.cell? ⟨p5, 3, none⟩ = some (.int .i64 tq) := S.cell 2 3 rfl rfl
     have zb5_3 : w6.frozen? ⟨p5, 3, none⟩ = false := S.frozen 2 3 rfl
     have b5_4 : w6.cell? ⟨p5, 4, none⟩ = some (.int .i64 aq) := S.cell 2 4 rfl rfl
     have zb5_4 : w6.frozen? ⟨p5, 4, none⟩ = false := S.frozen 2 4 rfl
     go_upto_region 10 with (fail)
     clear b12_0 b12_1 b5_3 zb5_3 b5_4 zb5_4
     generalize hg : World.setCell w6 ⟨p5, 3, none⟩ _ = w7
     replace S := S.set 2 hg rfl
     clear hg
     generalize hg : World.setCell w7 ⟨p5, 4, none⟩ _ = w8
     replace S := S.set 2 hg rfl
     clear hg
     replace S : Kn ok w0 [(p12, .cells #[.int .i64 a1, .int .i64 a2] 28 (0, 0)), (p8, .cells #[.int .i64 0, .slice none 0 0, .bool false, .int .i64 0, .int .i64 0, .bool false, .int .i64 0] TLk (0, 0)), (p5, .cells #[.int .i64 ss, .slice A' ([] : List Ch).length c', .bool false, .int .i64 a1, .int .i64 a2, .bool false, .int .i64 dq] TLk (0, 0)), (p4, .cells #[.int .i64 c0, .int .i64 c1, .int .i64 c2, .int .i64 c3] 23 (0, 0))] (u10 : Value) (N kFr TFr w0.heap.size u10 fq) [V kSe (.slice B t.length mc) t, V kCh (.slice A' ([] : List Ch).length c') ([] : List Ch)] w8 := S
     have b5_0 : w8.cell? ⟨p5, 0, none⟩ = some (.int .i64 ss) := S.cell 2 0 rfl rfl
     go_upto_region 11 with (fail)
     generalize hg : World.alloc _ _ = w9
     replace S := S.new hg
     clear b5_0 hg
     generalize w8.heap.size = p14 at S ⊢
     replace S : Kn ok w0 [(p14, .cells #[.int .i64 0, .int .i64 ss, .bool false, .string ⟨#[]⟩, .int .i64 0, .int .i64 0, .int .i64 0, .string ⟨#[]⟩, .int .u64 0, .slice none 0 0] TFr (0, 0)), (p12, .cells #[.int .i64 a1, .int .i64 a2] 28 (0, 0)), (p8, .cells #[.int .i64 0, .slice none 0 0, .bool false, .int .i64 0, .int .i64 0, .bool false, .int .i64 0] TLk (0, 0)), (p5, .cells #[.int .i64 ss, .slice A' ([] : List Ch).length c', .bool false, .int .i64 a1, .int .i64 a2, .bool false, .int .i64 dq] TLk (0, 0)), (p4, .cells #[.int .i64 c0, .int .i64 c1, .int .i64 c2, .int .i64 c3] 23 (0, 0))] (u10 : Value) (N kFr TFr w0.heap.size u10 fq) [V kSe (.slice B t.length mc) t, V kCh (.slice A' ([] : List Ch).length c') ([] : List Ch)] w9 := S
     have b5_5 : w9.cell? ⟨p5, 5, none⟩ = some (.bool false) := S.cell 3 5 rfl rfl
     have b5_1 : w9.cell? ⟨p5, 1, none⟩ = some (.slice A' ([] : List Ch).length c') := S.cell 3 1 rfl rfl
     have b14_0 : w9.cell? ⟨p14, 0, none⟩ = some (.int .i64 0) := S.cell 0 0 rfl rfl
     have zb14_0 : w9.frozen? ⟨p14, 0, none⟩ = false := S.frozen 0 0 rfl
     go_upto_region 24 with (fail)
     clear b5_5 b5_1 b14_0 zb14_0
     generalize hg : World.setCell w9 ⟨p14, 0, none⟩ _ = w10
     replace S := S.set 0 hg rfl
     clear hg
     replace S : Kn ok w0 [(p14, .cells #[.int .i64 2, .int .i64 ss, .bool false, .string ⟨#[]⟩, .int .i64 0, .int .i64 0, .int .i64 0, .string ⟨#[]⟩, .int .u64 0, .slice none 0 0] TFr (0, 0)), (p12, .cells #[.int .i64 a1, .int .i64 a2] 28 (0, 0)), (p8, .cells #[.int .i64 0, .slice none 0 0, .bool false, .int .i64 0, .int .i64 0, .bool false, .int .i64 0] TLk (0, 0)), (p5, .cells #[.int .i64 ss, .slice A' ([] : List Ch).length c', .bool false, .int .i64 a1, .int .i64 a2, .bool false, .int .i64 dq] TLk (0, 0)), (p4, .cells #[.int .i64 c0, .int .i64 c1, .int .i64 c2, .int .i64 c3] 23 (0, 0))] (u10 : Value) (N kFr TFr w0.heap.size u10 fq) [V kSe (.slice B t.length mc) t, V kCh (.slice A' ([] : List Ch).length c') ([] : List Ch)] w10 := S
     go_wp2_with fail
     refine (rollcallref05_Sum.kn 6000 HSm.out (S.ft 0 rfl)).mono ?_
     rintro e w11 ⟨rfl, hb⟩
     replace S := S.below hb
     clear hb HSm
     have b14_8 : w11.cell? ⟨p14, 8, none⟩ = some (.int .u64 0) := S.cell 0 8 rfl rfl
     have zb14_8 : w11.frozen? ⟨p14, 8, none⟩ = false := S.frozen 0 8 rfl
     go_upto_region 25 with (fail)
     clear b14_8 zb14_8
     generalize hg : World.setCell w11 ⟨p14, 8, none⟩ _ = w12
     replace S := S.set 0 hg rfl
     clear hg
     replace S : Kn ok w0 [(p14, .cells #[.int .i64 2, .int .i64 ss, .bool false, .string ⟨#[]⟩, .int .i64 0, .int .i64 0, .int .i64 0, .string ⟨#[]⟩, .int .u64 (sumB t), .slice none 0 0] TFr (0, 0)), (p12, .cells #[.int .i64 a1, .int .i64 a2] 28 (0, 0)), (p8, .cells #[.int .i64 0, .slice none 0 0, .bool false, .int .i64 0, .int .i64 0, .bool false, .int .i64 0] TLk (0, 0)), (p5, .cells #[.int .i64 ss, .slice A' ([] : List Ch).length c', .bool false, .int .i64 a1, .int .i64 a2, .bool false, .int .i64 dq] TLk (0, 0)), (p4, .cells #[.int .i64 c0, .int .i64 c1, .int .i64 c2, .int .i64 c3] 23 (0, 0))] (u10 : Value) (N kFr TFr w0.heap.size u10 fq) [V kSe (.slice B t.length mc) t, V kCh (.slice A' ([] : List Ch).length c') ([] : List Ch)] w12 := S
     have b5_6 : w12.cell? ⟨p5, 6, none⟩ = some (.int .i64 dq) := S.cell 3 6 rfl rfl
     have zb5_6 : w12.frozen? ⟨p5, 6, none⟩ = false := S.frozen 3 6 rfl
     go_upto_region 26 with (fail)
     clear b5_6 zb5_6
     generalize hg : World.setCell w12 ⟨p5, 6, none⟩ _ = w13
     replace S := S.set 3 hg rfl
     clear hg
     replace S : Kn ok w0 [(p14, .cells #[.int .i64 2, .int .i64 ss, .bool false, .string ⟨#[]⟩, .int .i64 0, .int .i64 0, .int .i64 0, .string ⟨#[]⟩, .int .u64 (sumB t), .slice none 0 0] TFr (0, 0)), (p12, .cells #[.int .i64 a1, .int .i64 a2] 28 (0, 0)), (p8, .cells #[.int .i64 0, .slice none 0 0, .bool false, .int .i64 0, .int .i64 0, .bool false, .int .i64 0] TLk (0, 0)), (p5, .cells #[.int .i64 ss, .slice A' ([] : List Ch).length c', .bool false, .int .i64 a1, .int .i64 a2, .bool false, .int .i64 now] TLk (0, 0)), (p4, .cells #[.int .i64 c0, .int .i64 c1, .int .i64 c2, .int .i64 c3] 23 (0, 0))] (u10 : Value) (N kFr TFr w0.heap.size u10 fq) [V kSe (.slice B t.length mc) t, V kCh (.slice A' ([] : List Ch).length c') ([] : List Ch)] w13 := S
     have b14_0 : w13.cell? ⟨p14, 0, none⟩ = some (.int .i64 2) := S.cell 0 0 rfl rfl
     have b14_1 : w13.cell? ⟨p14, 1, none⟩ = some (.int .i64 ss) := S.cell 0 1 rfl rfl
     have b14_2 : w13.cell? ⟨p14, 2, none⟩ = some (.bool false) := S.cell 0 2 rfl rfl
     have b14_3 : w13.cell? ⟨p14, 3, none⟩ = some (.string ⟨#[]⟩) := S.cell 0 3 rfl rfl
     have b14_4 : w13.cell? ⟨p14, 4, none⟩ = some (.int .i64 0) := S.cell 0 4 rfl rfl
     have b14_5 : w13.cell? ⟨p14, 5, none⟩ = some (.int .i64 0) := S.cell 0 5 rfl rfl
     have b14_6 : w13.cell? ⟨p14, 6, none⟩ = some (.int .i64 0) := S.cell 0 6 rfl rfl
     have b14_7 : w13.cell? ⟨p14, 7, none⟩ = some (.string ⟨#[]⟩) := S.cell 0 7 rfl rfl
     have b14_8 : w13.cell? ⟨p14, 8, none⟩ = some (.int .u64 (sumB t)) := S.cell 0 8 rfl rfl
     have b14_9 : w13.cell? ⟨p14, 9, none⟩ = some (.slice none 0 0) := S.cell 0 9 rfl rfl
     have hVt := (S.ft 0 rfl)
     have hfk : Kd.FK kFr w13 (Ap ok w0 [(p14, .cells #[.int .i64 2, .int .i64 ss, .bool false, .string ⟨#[]⟩, .int .i64 0, .int .i64 0, .int .i64 0, .string ⟨#[]⟩, .int .u64 (sumB t), .slice none 0 0] TFr (0, 0)), (p12, .cells #[.int .i64 a1, .int .i64 a2] 28 (0, 0)), (p8, .cells #[.int .i64 0, .slice none 0 0, .bool false, .int .i64 0, .int .i64 0, .bool false, .int .i64 0] TLk (0, 0)), (p5, .cells #[.int .i64 ss, .slice A' ([] : List Ch).length c', .bool false, .int .i64 a1, .int .i64 a2, .bool false, .int .i64 now] TLk (0, 0)), (p4, .cells #[.int .i64 c0, .int .i64 c1, .int .i64 c2, .int .i64 c3] 23 (0, 0))] u10) (⟨2, ss, false, ⟨#[]⟩, ⟨0, 0, 0, ⟨#[]⟩⟩, sumB t, []⟩ : Fr) [.int .i64 2, .int .i64 ss, .bool false, .string ⟨#[]⟩, .int .i64 0, .int .i64 0, .int .i64 0, .string ⟨#[]⟩, .int .u64 (sumB t), .slice none 0 0] := k60_mkF _ _ (⟨2, ss, false, ⟨#[]⟩, ⟨0, 0, 0, ⟨#[]⟩⟩, sumB t, []⟩ : Fr) (A9 := none) (c9 := 0) (Nat.le_refl _) (Kd.V_at (Kd.V_nil kSe 0 _ 0 _)).2.2
     have HS := Aside0.mk S
     have HP := Aside0.mk hfk
     clear S hVt hfk
     go_upto_region 27 with ((with_reducible refine gate_builtin (b := .append) (xs := #[.tmp 110, .tmp 112]) rfl ?_); (try (refine gate_guard (by rfl) ?_; dsimp only)); at_builtin; refine Kd.N_append kFr (w0 := w0) w0.heap.size rfl (.tmp 110) (.tmp 112) 50 60 (.agg #[(.int .i64 0), (.int .i64 0), (.bool false), (.string ⟨#[]⟩), (.int .i64 0), (.int .i64 0), (.int .i64 0), (.string ⟨#[]⟩), (.int .u64 0), (.slice none 0 0)]) 112 rfl Try.underlying50 info_fr rfl (by decide) (by omega) u10 fq (⟨2, ss, false, ⟨#[]⟩, ⟨0, 0, 0, ⟨#[]⟩⟩, sumB t, []⟩ : Fr) [.int .i64 2, .int .i64 ss, .bool false, .string ⟨#[]⟩, .int .i64 0, .int .i64 0, .int .i64 0, .string ⟨#[]⟩, .int .u64 (sumB t), .slice none 0 0] (Fp ok w0 _) (Ap ok w0 _ u10) rfl rfl HP.out (fun _ hk => hk) ?aF HS.out.own HS.out.bel HS.out.bel.size ?aL ?_; (case aF => exact (fun k hk => ⟨.inr (Nat.le_trans HS.out.bel.size hk), fun x hx => by have := HS.out.lt hx; omega⟩)); (case aL => have := HI.out; have := HK.out; omega); intro v1 y1 ho hb hg hat)
     have S := HS.out.grown (U' := N kFr TFr w0.heap.size v1 (fq ++ [(⟨2, ss, false, ⟨#[]⟩, ⟨0, 0, 0, ⟨#[]⟩⟩, sumB t, []⟩ : Fr)])) ho hb hg hat (Kd.N_lt ho)
     clear HS HP ho hb hg hat
     clear b14_0 b14_1 b14_2 b14_3 b14_4 b14_5 b14_6 b14_7 b14_8 b14_9
     replace S : Kn ok w0 [(p14, .cells #[.int .i64 2, .int .i64 ss, .bool false, .string ⟨#[]⟩, .int .i64 0, .int .i64 0, .int .i64 0, .string ⟨#[]⟩, .int .u64 (sumB t), .slice none 0 0] TFr (0, 0)), (p12, .cells #[.int .i64 a1, .int .i64 a2] 28 (0, 0)), (p8, .cells #[.int .i64 0, .slice none 0 0, .bool false, .int .i64 0, .int .i64 0, .bool false, .int .i64 0] TLk (0, 0)), (p5, .cells #[.int .i64 ss, .slice A' ([] : List Ch).length c', .bool false, .int .i64 a1, .int .i64 a2, .bool false, .int .i64 now] TLk (0, 0)), (p4, .cells #[.int .i64 c0, .int .i64 c1, .int .i64 c2, .int .i64 c3] 23 (0, 0))] v1 (N kFr TFr w0.heap.size v1 (fq ++ [(⟨2, ss, false, ⟨#[]⟩, ⟨0, 0, 0, ⟨#[]⟩⟩, sumB t, []⟩ : Fr)])) [V kSe (.slice B t.length mc) t, V kCh (.slice A' ([] : List Ch).length c') ([] : List Ch)] y1 := S
     have b5_0 : y1.cell? ⟨p5, 0, none⟩ = some (.int .i64 ss) := S.cell 3 0 rfl rfl
     have zb5_0 : y1.frozen? ⟨p5, 0, none⟩ = false := S.frozen 3 0 rfl
     go_wp2
     clear b5_0 zb5_0
     generalize hg : World.setCell y1 ⟨p5, 0, none⟩ _ = w14
     replace S := S.set 3 hg rfl
     clear hg
     replace S : Kn ok w0 [(p14, .cells #[.int .i64 2, .int .i64 ss, .bool false, .string ⟨#[]⟩, .int .i64 0, .int .i64 0, .int .i64 0, .string ⟨#[]⟩, .int .u64 (sumB t), .slice none 0 0] TFr (0, 0)), (p12, .cells #[.int .i64 a1, .int .i64 a2] 28 (0, 0)), (p8, .cells #[.int .i64 0, .slice none 0 0, .bool false, .int .i64 0, .int .i64 0, .bool false, .int .i64 0] TLk (0, 0)), (p5, .cells #[.int .i64 (ss + 1), .slice A' ([] : List Ch).length c', .bool false, .int .i64 a1, .int .i64 a2, .bool false, .int .i64 now] TLk (0, 0)), (p4, .cells #[.int .i64 c0, .int .i64 c1, .int .i64 c2, .int .i64 c3] 23 (0, 0))] v1 (N kFr TFr w0.heap.size v1 (fq ++ [(⟨2, ss, false, ⟨#[]⟩, ⟨0, 0, 0, ⟨#[]⟩⟩, sumB t, []⟩ : Fr)])) [V kSe (.slice B t.length mc) t, V kCh (.slice A' ([] : List Ch).length c') ([] : List Ch)] w14 := S
     replace S := S.pop 2
     replace S : Kn ok w0 [(p8, .cells #[.int .i64 0, .slice none 0 0, .bool false, .int .i64 0, .int .i64 0, .bool false, .int .i64 0] TLk (0, 0)), (p5, .cells #[.int .i64 (ss + 1), .slice A' ([] : List Ch).length c', .bool false, .int .i64 a1, .int .i64 a2, .bool false, .int .i64 now] TLk (0, 0)), (p4, .cells #[.int .i64 c0, .int .i64 c1, .int .i64 c2, .int .i64 c3] 23 (0, 0))] v1 (N kFr TFr w0.heap.size v1 (fq ++ [(⟨2, ss, false, ⟨#[]⟩, ⟨0, 0, 0, ⟨#[]⟩⟩, sumB t, []⟩ : Fr)])) [V kSe (.slice B t.length mc) t, V kCh (.slice A' ([] : List Ch).length c') ([] : List Ch)] w14 := S
     go_roundg g
     case measure => omega
     case rel => exact ⟨⟨ss + 1, [], false, a1, a2, now, fq ++ [(⟨2, ss, false, ⟨#[]⟩, ⟨0, 0, 0, ⟨#[]⟩⟩, sumB t, []⟩ : Fr)]⟩, A', c', ⟨hE'⟩, ⟨by have := HI.out; have := HN.out; refine ⟨?_, ?_, ?_, ?_, ?_⟩ <;> simp only [List.length_append, List.length_cons, List.length_nil] at * <;> omega⟩, ⟨S⟩⟩
/-- The reference's link tells what 'emitP' says. -/
theorem refEmit_yes (ok : Nat → Prop) (k1 k2 K : Nat) (c0 c1 c2 c3 s : Int) (A : Option Addr) (cc : Nat) (q : List Ch) (tok at_ : Int) (sn : Bool) (dg : Int) (B : Option Addr) (mc : Nat) (t : List Se) (now : Int) (w : World)
  (hqv : (V kCh (.slice A q.length cc) q).P w ok) (htv : (V kSe (.slice B t.length mc) t).P w ok)
  (h1 : rollcallref18_May.f k1 c0 c1 c2 c3 s q false tok at_ sn dg = some true) (h2 : rollcallref05_May.f k2 t = some true) (h3 : rollcallref16_Time.f now = some true)
  (hs0 : 0 ≤ s) (hd0 : 0 ≤ dg) (hd1 : dg ≤ 1099511627776) (hn0 : 0 ≤ now) (hn1 : now ≤ 1099511627776) (hm : mayT t = true) (hK : K ≤ 1000) (hq : q.length ≤ 1000) (R : St) (hR : emitP c0 c1 c2 c3 now t K ⟨s, q, sn, tok, at_, dg, []⟩ = some R) :
  Calls Try.prog 25 #[.agg #[.int .i64 c0, .int .i64 c1, .int .i64 c2, .int .i64 c3], .agg #[.int .i64 s, .slice A q.length cc, .bool false, .int .i64 tok, .int .i64 at_, .bool sn, .int .i64 dg], .slice B t.length mc, .int .i64 now] w
   fun e w' => ∃ (A' : Option Addr) (c' : Nat) (A2 : Option Addr) (c2' : Nat), e = .returned (.tuple #[.agg #[.int .i64 R.s, .slice A' R.q.length c', .bool false, .int .i64 R.tok, .int .i64 R.at_, .bool R.sn, .int .i64 R.dg], .slice A2 R.fs.length c2']) ∧ (V kCh (.slice A' R.q.length c') R.q).P w' (fun k => ok k ∨ w.heap.size ≤ k) ∧ (V kFr (.slice A2 R.fs.length c2') R.fs).P w' (fun k => ok k ∨ w.heap.size ≤ k) ∧ Below w.heap.size w w' :=
 refEmit_go ok k1 k2 K c0 c1 c2 c3 s A cc q tok at_ sn dg B mc t now w w (Kn.enter ok w (by simp only [List.mem_cons, List.not_mem_nil, or_false]; rintro f (rfl | rfl); exact htv; exact hqv)) h1 h2 h3 hs0 hd0 hd1 hn0 hn1 hm hK hq R hR
end Go.Proofs.Ytmigglldahkngaa.XTell
end

section
/- Links in plain lists: a new one, what is pushed, asked and told; two lists of frames that are the same. -/
namespace Go.Proofs.Ytmigglldahkngaa.XV17
open Go.RowKit Go.Proofs.Ytmigglldahkngaa.PA Go.Proofs.YtmigglldahkngaaW.PrintWords Go.Proofs.YtmigglldahkngaaW.PrintLast Go.Proofs.Ytmigglldahkngaa.XGen
open Go.Proofs.Ytmigglldahkngaa.XPlace (idx is)
open Go.Proofs.Ytmigglldahkngaa.XTell (emitP nextP)
open Go.Proofs.Ytmigglldahkngaa.XPace (TK)
open Go.Proofs.Ytmigglldahkngaa.XSum (sumB)
set_option linter.unusedVariables false
set_option linter.unusedSimpArgs false
abbrev Fr := S60
/-- Whether a config may be. -/
def CfP (c0 c1 c2 c3 : Int) : Prop := 1 ≤ c0 ∧ c0 ≤ 16 ∧ 1 ≤ c1 ∧ c1 ≤ 64 ∧ 1 ≤ c2 ∧ c2 ≤ 16 ∧ 1 ≤ c3 ∧ c3 ≤ 1000
instance (c0 c1 c2 c3 : Int) : Decidable (CfP c0 c1 c2 c3) := by unfold CfP; infer_instance
def newK (c0 c1 c2 c3 n : Int) : Int × List Ch × Bool × Int × Int × Bool × Int × Int :=
 if CfP c0 c1 c2 c3 ∧ 0 ≤ n ∧ n ≤ 1099511627776 then (0, [], false, c1, n, true, n, 0) else (0, [], false, 0, 0, false, 0, 1)
theorem newK_b (c0 c1 c2 c3 n : Int) : link_New.f c0 c1 c2 c3 n = some (newK c0 c1 c2 c3 n) := by
 unfold link_New.f pace_New.f newK
 rw [paceMay_b, XPace.within_f]
 simp only [Option.bind_some, decide_eq_true_eq]
 by_cases h1 : CfP c0 c1 c2 c3
 ·have h1' := h1
  unfold CfP at h1'
  rw [if_pos h1']
  by_cases h2 : 0 ≤ n ∧ n ≤ 1099511627776
  ·rw [if_pos h2, if_pos ⟨h1, h2⟩]; simp
  ·rw [if_neg h2, if_neg (fun h => h2 h.2)]; simp
 ·have h1' := h1
  unfold CfP at h1'
  rw [if_neg h1', if_neg (fun h => h1 h.1)]; simp
theorem same18 (k : Nat) (s : Int) (q : List Ch) (lat : Bool) (t a : Int) (sn : Bool) (d : Int) (hq : q.length ≤ 1000) (hk : 1001 < k) : rollcallref18_Same.f k s q lat t a sn d s q lat t a sn d = some true := by
 unfold rollcallref18_Same.f
 rw [if_pos rfl, same_f k q lat (by omega) (by omega)]
 simp
/-- What is pushed on a link. -/
def pushK (c0 s : Int) (q : List Ch) (lat : Bool) (t a : Int) (sn : Bool) (d : Int) (x : Ch) : Int × List Ch × Bool × Int × Int × Bool × Int :=
 if sn = true then (s, q, lat, t, a, sn, d) else if (PU q lat x c0).2 = true then (s, [], false, t, a, true, d) else (s, (PU q lat x c0).1, (PU q lat x c0).2, t, a, sn, d)
theorem few18_f (k : Nat) (s : Int) (l : List Ch) (b : Bool) (t a : Int) (sn : Bool) (d : Int) (hk : 60 ≤ k) : ∃ q, rollcallref18_Few.f k s l b t a sn d = some q ∧ (q = true → l.length ≤ 30) := by
 obtain ⟨q, h1, h2⟩ := few_f k l b hk
 refine ⟨q, ?_, h2⟩
 unfold rollcallref18_Few.f
 rw [h1]; rfl
/-! ### what is told -/
/-- How often something may be told at most. -/
def rounds (c3 now : Int) (st : XTell.St) : Nat := (if st.sn = true then 1 else 0) + st.q.length + (if now - st.dg < c3 then 0 else 1)
theorem next_less {c3 now : Int} {t : List XSum.Se} {st : XTell.St} {f : Fr} {q : List Ch} {sn : Bool} {dg : Int} (h3 : 1 ≤ c3) (h : nextP c3 now t st = some (f, q, sn, dg)) (s tok at_ : Int) (fs : List Fr) :
  rounds c3 now ⟨s, q, sn, tok, at_, dg, fs⟩ < rounds c3 now st := by
 unfold nextP at h
 unfold rounds
 obtain ⟨s0, q0, sn0, t0, a0, d0, f0⟩ := st
 dsimp only at h ⊢
 cases sn0 with
 | true =>
  rw [if_pos rfl] at h
  simp only [Option.some.injEq, Prod.mk.injEq] at h
  obtain ⟨_, rfl, rfl, rfl⟩ := h
  simp only [if_pos, Int.sub_self, if_neg Bool.false_ne_true, if_pos (show (0 : Int) < c3 by omega)]
  split <;> omega
 | false =>
  rw [if_neg (by simp)] at h
  cases q0 with
  | cons x l =>
   simp only [Option.some.injEq, Prod.mk.injEq] at h
   obtain ⟨_, rfl, rfl, rfl⟩ := h
   simp
  | nil =>
   by_cases hd : now - d0 < c3
   ·simp only [if_pos hd] at h
    cases h
   ·simp only [if_neg hd, Option.some.injEq, Prod.mk.injEq] at h
    obtain ⟨_, rfl, rfl, rfl⟩ := h
    simp only [Int.sub_self, if_pos (show (0 : Int) < c3 by omega), if_neg hd]
    simp
theorem emit_all (c0 c1 c2 c3 now : Int) (t : List XSum.Se) (h3 : 1 ≤ c3) : ∀ (k : Nat) (st : XTell.St), rounds c3 now st < k → ∃ R, emitP c0 c1 c2 c3 now t k st = some R ∧ R.fs.length + rounds c3 now R ≤ st.fs.length + rounds c3 now st ∧ R.q.length ≤ st.q.length ∧ ((∀ f ∈ st.fs, f.f6 = t ∨ f.f6 = []) → ∀ f ∈ R.fs, f.f6 = t ∨ f.f6 = []) := by
 intro k
 induction k with
 | zero => intro st h; omega
 | succ k ih =>
  intro st h
  rw [emitP]
  by_cases h1 : st.s < 1099511627776
  rotate_left
  ·exact ⟨st, by rw [if_neg h1], Nat.le_refl _, Nat.le_refl _, fun h => h⟩
  rw [if_pos h1]
  by_cases h2 : (TK c0 c1 c2 c3 st.tok st.at_ now).2.2 = true
  rotate_left
  ·exact ⟨st, by rw [if_neg h2], Nat.le_refl _, Nat.le_refl _, fun h => h⟩
  rw [if_pos h2]
  rcases hn : nextP c3 now t st with _ | ⟨f, q, sn, dg⟩
  ·exact ⟨st, rfl, Nat.le_refl _, Nat.le_refl _, fun h => h⟩
  ·have hlt := next_less h3 hn (st.s + 1) (TK c0 c1 c2 c3 st.tok st.at_ now).1 (TK c0 c1 c2 c3 st.tok st.at_ now).2.1 (st.fs ++ [f])
   obtain ⟨R, hR, hA, hB, hC⟩ := ih ⟨st.s + 1, q, sn, (TK c0 c1 c2 c3 st.tok st.at_ now).1, (TK c0 c1 c2 c3 st.tok st.at_ now).2.1, dg, st.fs ++ [f]⟩ (by omega)
   refine ⟨R, hR, ?_, ?_, fun hf => hC fun g hg => ?_⟩
   ·simp only [List.length_append, List.length_cons, List.length_nil] at hA
    omega
   ·refine Nat.le_trans hB ?_
    show q.length ≤ st.q.length
    unfold nextP at hn
    split at hn
    ·simp only [Option.some.injEq, Prod.mk.injEq] at hn
     obtain ⟨_, rfl, _⟩ := hn
     exact Nat.le_refl _
    ·split at hn
     ·rename_i e
      simp only [Option.some.injEq, Prod.mk.injEq] at hn
      obtain ⟨_, rfl, _⟩ := hn
      rw [e]; simp
     ·split at hn
      ·cases hn
      ·simp only [Option.some.injEq, Prod.mk.injEq] at hn
       obtain ⟨_, rfl, _⟩ := hn
       simp
   ·rcases List.mem_append.1 hg with hg | hg
    ·exact hf g hg
    ·rw [List.mem_singleton] at hg
     subst hg
     unfold nextP at hn
     split at hn
     ·simp only [Option.some.injEq, Prod.mk.injEq] at hn
      obtain ⟨rfl, _⟩ := hn
      exact .inl rfl
     ·split at hn
      ·simp only [Option.some.injEq, Prod.mk.injEq] at hn
       obtain ⟨rfl, _⟩ := hn
       exact .inr rfl
      ·split at hn
       ·cases hn
       ·simp only [Option.some.injEq, Prod.mk.injEq] at hn
        obtain ⟨rfl, _⟩ := hn
        exact .inr rfl
theorem rdF_at (l : List Fr) (j : Nat) (h : j < l.length) : rd_T60 l (j : Int) = l[j] := by
 unfold rd_T60
 rw [Int.toNat_natCast, getD_lt l _ j h]
theorem sameFr (k : Nat) (f : Fr) (h : f.f6.length ≤ 1000) (hk : 1001 < k) : rollcallref06_Same.f k f.f0 f.f1 f.f2 f.f3 f.f4.f0 f.f4.f1 f.f4.f2 f.f4.f3 f.f5 f.f6 f.f0 f.f1 f.f2 f.f3 f.f4.f0 f.f4.f1 f.f4.f2 f.f4.f3 f.f5 f.f6 = some true := by
 unfold rollcallref06_Same.f
 rw [sameS_f k f.f6 (by omega) (by omega)]
 simp
theorem framesL (l : List Fr) (hl : l.length ≤ 1000) (ht : ∀ f ∈ l, f.f6.length ≤ 1000) : ∀ (d k j : Nat), j + d = l.length → d + 1002 < k → rollcallref18_Frames.l0 k l l (j : Int) = some true := by
 intro d
 induction d with
 | zero =>
  intro k j hj hk
  obtain ⟨k, rfl⟩ : ∃ m, k = m + 1 := ⟨k - 1, by omega⟩
  rw [rollcallref18_Frames.l0, if_neg (by omega)]
 | succ d ih =>
  intro k j hj hk
  obtain ⟨k, rfl⟩ : ∃ m, k = m + 1 := ⟨k - 1, by omega⟩
  rw [rollcallref18_Frames.l0, if_pos (by omega), if_pos (by omega), if_pos (by omega), rdF_at l j (by omega), sameFr k _ (ht _ (List.getElem_mem _)) (by omega)]
  simp only [Option.bind_some, if_pos]
  rw [wrap_succ j (by omega)]
  exact ih k (j + 1) (by omega) (by omega)
theorem frames_f (k : Nat) (l : List Fr) (hl : l.length ≤ 1000) (ht : ∀ f ∈ l, f.f6.length ≤ 1000) (hk : 3000 ≤ k) : rollcallref18_Frames.f k l l = some true := by
 unfold rollcallref18_Frames.f
 rw [if_pos rfl]
 exact framesL l hl ht l.length k 0 (by omega) (by omega)
end Go.Proofs.Ytmigglldahkngaa.XV17
end

section
/- A change that is pushed on a link (and on the reference's), walked; what a link tells, over Kn. -/
namespace Go.Proofs.Ytmigglldahkngaa.XTell
open Go.RowKit Go.Proofs.YtmigglldahkngaaW.PrintWords Go.Proofs.YtmigglldahkngaaW.PrintLast Go.Proofs.YtmigglldahkngaaW.PrintMore Go.Proofs.Ytmigglldahkngaa.PA Go.Proofs.Ytmigglldahkngaa.XMem Go.Proofs.Ytmigglldahkngaa.XSum Go.Proofs.Ytmigglldahkngaa.XSt Go.Proofs.Ytmigglldahkngaa.XKn
open Go.Proofs.Ytmigglldahkngaa.XV17 (mayT mayK pushK PU push_f linkMayK digMayT_b ltime_b mayK_iff mayT_iff)
set_option linter.unusedVariables false
set_option linter.unusedSimpArgs false
set_option maxRecDepth 100000
abbrev TCf : TypeId := 23
theorem queue_Push.kn {w : World} {P0_0_ : Nat → Prop} {A0_0 : Option Addr} {c0_0 : Nat} {l0_0 : List (S34)} {a0_1 : Bool} {a1_0 : ByteArray} {a1_1 : Bool} {a1_2 : Int} {a1_3 : Int} {a1_4 : Int} {a1_5 : ByteArray} {a2 : Int} {r1 : List (S34)} {r2 : Bool} (h : queue_Push.f l0_0 a0_1 a1_0 a1_1 a1_2 a1_3 a1_4 a1_5 a2 = some (r1, r2)) (g1 : (V k34 (.slice A0_0 l0_0.length c0_0) l0_0).P w P0_0_) :
  Calls Try.prog 48 #[.agg #[.slice A0_0 l0_0.length c0_0, .bool a0_1], .agg #[.string a1_0, .bool a1_1, .int .i64 a1_2, .int .i64 a1_3, .int .i64 a1_4, .string a1_5], .int .i64 a2] w fun e w' => ∃ (Av0_ : Option Addr) (cv0_ : Nat), e = .returned (.agg #[(.slice Av0_ r1.length cv0_), .bool r2]) ∧ (V k34 (.slice Av0_ r1.length cv0_) r1).P w' (fun k_ => (P0_0_ k_ ∨ w.heap.size ≤ k_)) ∧ Below w.heap.size w w' := by
 refine (queue_Push.calls P0_0_ A0_0 c0_0 l0_0 a0_1 a1_0 a1_1 a1_2 a1_3 a1_4 a1_5 a2 r1 r2 w (V_to g1 _ _) h).mono ?_
 rintro e w' ⟨v0_, y0, y1, y2⟩
 have z1 := V_any y1
 obtain ⟨Av0_, cv0_, rfl⟩ := Kd.V_slice (e := 0) (base := 0) z1
 exact ⟨Av0_, cv0_, y0, z1, y2⟩
set_option maxHeartbeats 8000000 in
theorem push_go (ok : Nat → Prop) (c0 c1 c2 c3 s : Int) (A : Option Addr) (cc : Nat) (q : List Ch) (lat : Bool) (tok at_ : Int) (sn : Bool) (dg : Int) (x : Ch) (r0 : Int) (r1 : List Ch) (r2 : Bool) (r3 r4 : Int) (r5 : Bool) (r6 : Int) (w0 w : World)
  (S : Kn ok w0 [] nil tt [V kCh (.slice A q.length cc) q] w) (hq : q.length ≤ 1000) (h : pushK c0 s q lat tok at_ sn dg x = (r0, r1, r2, r3, r4, r5, r6)) :
  Calls Try.prog 19 #[.agg #[.int .i64 c0, .int .i64 c1, .int .i64 c2, .int .i64 c3], .agg #[.int .i64 s, .slice A q.length cc, .bool lat, .int .i64 tok, .int .i64 at_, .bool sn, .int .i64 dg], .agg #[.string x.f0, .bool x.f1, .int .i64 x.f2.f0, .int .i64 x.f2.f1, .int .i64 x.f2.f2, .string x.f2.f3]] w
   fun e w' => ∃ (A' : Option Addr) (c' : Nat), e = .returned (.agg #[.int .i64 r0, .slice A' r1.length c', .bool r2, .int .i64 r3, .int .i64 r4, .bool r5, .int .i64 r6]) ∧ (V kCh (.slice A' r1.length c') r1).P w' (fun k => ok k ∨ w0.heap.size ≤ k) ∧ Below w0.heap.size w0 w' := by
 unfold pushK at h
 have HH := Aside0.mk h
 have HQ := Aside0.mk (show queue_Push.f q lat x.f0 x.f1 x.f2.f0 x.f2.f1 x.f2.f2 x.f2.f3 c0 = some (PU q lat x c0) from push_f q lat x c0 (by omega))
 clear h hq
 go_enter Try.func19, Try.ntmps19
 go_upto_region 1 with (fail)
 generalize hg : World.alloc _ _ = w1
 replace S := S.new4 hg
 clear hg
 generalize w.heap.size + 3 = p6 at S ⊢
 generalize w.heap.size + 2 = p5 at S ⊢
 generalize w.heap.size + 1 = p4 at S ⊢
 generalize w.heap.size = p3 at S ⊢
 replace S : Kn ok w0 [(p6, .cells #[.int .i64 0, .slice none 0 0, .bool false, .int .i64 0, .int .i64 0, .bool false, .int .i64 0] TLk (0, 0)), (p5, .cells #[.string x.f0, .bool x.f1, .int .i64 x.f2.f0, .int .i64 x.f2.f1, .int .i64 x.f2.f2, .string x.f2.f3] TCh (0, 0)), (p4, .cells #[.int .i64 s, .slice A q.length cc, .bool lat, .int .i64 tok, .int .i64 at_, .bool sn, .int .i64 dg] TLk (0, 0)), (p3, .cells #[.int .i64 c0, .int .i64 c1, .int .i64 c2, .int .i64 c3] TCf (0, 0))] nil tt [V kCh (.slice A q.length cc) q] w1 := S
 cases sn with
 | true =>
  replace S : Kn ok w0 [(p6, .cells #[.int .i64 0, .slice none 0 0, .bool false, .int .i64 0, .int .i64 0, .bool false, .int .i64 0] TLk (0, 0)), (p5, .cells #[.string x.f0, .bool x.f1, .int .i64 x.f2.f0, .int .i64 x.f2.f1, .int .i64 x.f2.f2, .string x.f2.f3] TCh (0, 0)), (p4, .cells #[.int .i64 s, .slice A q.length cc, .bool lat, .int .i64 tok, .int .i64 at_, .bool true, .int .i64 dg] TLk (0, 0)), (p3, .cells #[.int .i64 c0, .int .i64 c1, .int .i64 c2, .int .i64 c3] TCf (0, 0))] nil tt [V kCh (.slice A q.length cc) q] w1 := S
  have h := HH.out
  rw [if_pos rfl] at h
  simp only [Prod.mk.injEq] at h
  obtain ⟨rfl, rfl, rfl, rfl, rfl, rfl, rfl⟩ := h
  clear HH HQ
  have l_0 : w1.cell? ⟨p4, 0, none⟩ = some (.int .i64 s) := S.cell 2 0 rfl rfl
  have l_1 : w1.cell? ⟨p4, 1, none⟩ = some (.slice A q.length cc) := S.cell 2 1 rfl rfl
  have l_2 : w1.cell? ⟨p4, 2, none⟩ = some (.bool lat) := S.cell 2 2 rfl rfl
  have l_3 : w1.cell? ⟨p4, 3, none⟩ = some (.int .i64 tok) := S.cell 2 3 rfl rfl
  have l_4 : w1.cell? ⟨p4, 4, none⟩ = some (.int .i64 at_) := S.cell 2 4 rfl rfl
  have l_5 : w1.cell? ⟨p4, 5, none⟩ = some (.bool true) := S.cell 2 5 rfl rfl
  have l_6 : w1.cell? ⟨p4, 6, none⟩ = some (.int .i64 dg) := S.cell 2 6 rfl rfl
  have r_0 : w1.cell? ⟨p6, 0, none⟩ = some (.int .i64 0) := S.cell 0 0 rfl rfl
  have zr_0 : w1.frozen? ⟨p6, 0, none⟩ = false := S.frozen 0 0 rfl
  have r_1 : w1.cell? ⟨p6, 1, none⟩ = some (.slice none 0 0) := S.cell 0 1 rfl rfl
  have zr_1 : w1.frozen? ⟨p6, 1, none⟩ = false := S.frozen 0 1 rfl
  have r_2 : w1.cell? ⟨p6, 2, none⟩ = some (.bool false) := S.cell 0 2 rfl rfl
  have zr_2 : w1.frozen? ⟨p6, 2, none⟩ = false := S.frozen 0 2 rfl
  have r_3 : w1.cell? ⟨p6, 3, none⟩ = some (.int .i64 0) := S.cell 0 3 rfl rfl
  have zr_3 : w1.frozen? ⟨p6, 3, none⟩ = false := S.frozen 0 3 rfl
  have r_4 : w1.cell? ⟨p6, 4, none⟩ = some (.int .i64 0) := S.cell 0 4 rfl rfl
  have zr_4 : w1.frozen? ⟨p6, 4, none⟩ = false := S.frozen 0 4 rfl
  have r_5 : w1.cell? ⟨p6, 5, none⟩ = some (.bool false) := S.cell 0 5 rfl rfl
  have zr_5 : w1.frozen? ⟨p6, 5, none⟩ = false := S.frozen 0 5 rfl
  have r_6 : w1.cell? ⟨p6, 6, none⟩ = some (.int .i64 0) := S.cell 0 6 rfl rfl
  have zr_6 : w1.frozen? ⟨p6, 6, none⟩ = false := S.frozen 0 6 rfl
  go_wp2
  clear l_0 l_1 l_2 l_3 l_4 l_5 l_6 r_0 zr_0 r_1 zr_1 r_2 zr_2 r_3 zr_3 r_4 zr_4 r_5 zr_5 r_6 zr_6
  generalize hg : World.setCell w1 ⟨p6, 0, none⟩ _ = w2
  replace S := S.set 0 hg rfl
  clear hg
  generalize hg : World.setCell w2 ⟨p6, 1, none⟩ _ = w3
  replace S := S.set 0 hg rfl
  clear hg
  generalize hg : World.setCell w3 ⟨p6, 2, none⟩ _ = w4
  replace S := S.set 0 hg rfl
  clear hg
  generalize hg : World.setCell w4 ⟨p6, 3, none⟩ _ = w5
  replace S := S.set 0 hg rfl
  clear hg
  generalize hg : World.setCell w5 ⟨p6, 4, none⟩ _ = w6
  replace S := S.set 0 hg rfl
  clear hg
  generalize hg : World.setCell w6 ⟨p6, 5, none⟩ _ = w7
  replace S := S.set 0 hg rfl
  clear hg
  generalize hg : World.setCell w7 ⟨p6, 6, none⟩ _ = w8
  replace S := S.set 0 hg rfl
  clear hg
  replace S : Kn ok w0 [(p6, .cells #[.int .i64 s, .slice A q.length cc, .bool lat, .int .i64 tok, .int .i64 at_, .bool true, .int .i64 dg] TLk (0, 0)), (p5, .cells #[.string x.f0, .bool x.f1, .int .i64 x.f2.f0, .int .i64 x.f2.f1, .int .i64 x.f2.f2, .string x.f2.f3] TCh (0, 0)), (p4, .cells #[.int .i64 s, .slice A q.length cc, .bool lat, .int .i64 tok, .int .i64 at_, .bool true, .int .i64 dg] TLk (0, 0)), (p3, .cells #[.int .i64 c0, .int .i64 c1, .int .i64 c2, .int .i64 c3] TCf (0, 0))] nil tt [V kCh (.slice A q.length cc) q] w8 := S
  have b6 := S.get 0 rfl
  have hV := S.out 0 rfl
  have hBe := S.bel
  clear S
  refine bodyPost_ret (results_cell_row rfl _ _ p6 TLk #[.int .i64 s, .slice A q.length cc, .bool lat, .int .i64 tok, .int .i64 at_, .bool true, .int .i64 dg] (0, 0) _ rfl b6 Try.underlying30 rfl (by kernel_rfl)) rfl ?_
  exact ⟨A, cc, rfl, hV, hBe⟩
 | false =>
  replace S : Kn ok w0 [(p6, .cells #[.int .i64 0, .slice none 0 0, .bool false, .int .i64 0, .int .i64 0, .bool false, .int .i64 0] TLk (0, 0)), (p5, .cells #[.string x.f0, .bool x.f1, .int .i64 x.f2.f0, .int .i64 x.f2.f1, .int .i64 x.f2.f2, .string x.f2.f3] TCh (0, 0)), (p4, .cells #[.int .i64 s, .slice A q.length cc, .bool lat, .int .i64 tok, .int .i64 at_, .bool false, .int .i64 dg] TLk (0, 0)), (p3, .cells #[.int .i64 c0, .int .i64 c1, .int .i64 c2, .int .i64 c3] TCf (0, 0))] nil tt [V kCh (.slice A q.length cc) q] w1 := S
  have h := HH.out
  rw [if_neg (by simp)] at h
  rcases hp : PU q lat x c0 with ⟨q2, lat2⟩
  rw [hp] at h HQ
  dsimp only at h
  replace HH := Aside0.mk h
  clear h hp
  have c_0 : w1.cell? ⟨p3, 0, none⟩ = some (.int .i64 c0) := S.cell 3 0 rfl rfl
  have l_0 : w1.cell? ⟨p4, 0, none⟩ = some (.int .i64 s) := S.cell 2 0 rfl rfl
  have l_1 : w1.cell? ⟨p4, 1, none⟩ = some (.slice A q.length cc) := S.cell 2 1 rfl rfl
  have l_2 : w1.cell? ⟨p4, 2, none⟩ = some (.bool lat) := S.cell 2 2 rfl rfl
  have l_3 : w1.cell? ⟨p4, 3, none⟩ = some (.int .i64 tok) := S.cell 2 3 rfl rfl
  have l_4 : w1.cell? ⟨p4, 4, none⟩ = some (.int .i64 at_) := S.cell 2 4 rfl rfl
  have l_5 : w1.cell? ⟨p4, 5, none⟩ = some (.bool false) := S.cell 2 5 rfl rfl
  have l_6 : w1.cell? ⟨p4, 6, none⟩ = some (.int .i64 dg) := S.cell 2 6 rfl rfl
  have x_0 : w1.cell? ⟨p5, 0, none⟩ = some (.string x.f0) := S.cell 1 0 rfl rfl
  have x_1 : w1.cell? ⟨p5, 1, none⟩ = some (.bool x.f1) := S.cell 1 1 rfl rfl
  have x_2 : w1.cell? ⟨p5, 2, none⟩ = some (.int .i64 x.f2.f0) := S.cell 1 2 rfl rfl
  have x_3 : w1.cell? ⟨p5, 3, none⟩ = some (.int .i64 x.f2.f1) := S.cell 1 3 rfl rfl
  have x_4 : w1.cell? ⟨p5, 4, none⟩ = some (.int .i64 x.f2.f2) := S.cell 1 4 rfl rfl
  have x_5 : w1.cell? ⟨p5, 5, none⟩ = some (.string x.f2.f3) := S.cell 1 5 rfl rfl
  go_wp2_with fail
  refine (queue_Push.kn HQ.out (S.ft 0 rfl)).mono ?_
  rintro e w2 ⟨A2, y2, rfl, hV, hb⟩
  replace S := S.call (f := (V kCh (.slice A2 q2.length y2) q2)) hb hV
  clear c_0 l_0 l_1 l_2 l_3 l_4 l_5 l_6 x_0 x_1 x_2 x_3 x_4 x_5 hb hV HQ
  have l_1 : w2.cell? ⟨p4, 1, none⟩ = some (.slice A q.length cc) := S.cell 2 1 rfl rfl
  have zl_1 : w2.frozen? ⟨p4, 1, none⟩ = false := S.frozen 2 1 rfl
  have l_2 : w2.cell? ⟨p4, 2, none⟩ = some (.bool lat) := S.cell 2 2 rfl rfl
  have zl_2 : w2.frozen? ⟨p4, 2, none⟩ = false := S.frozen 2 2 rfl
  go_upto_region 4 with (fail)
  clear l_1 zl_1 l_2 zl_2
  generalize hg : World.setCell w2 ⟨p4, 1, none⟩ _ = w3
  replace S := S.set 2 hg rfl
  clear hg
  generalize hg : World.setCell w3 ⟨p4, 2, none⟩ _ = w4
  replace S := S.set 2 hg rfl
  clear hg
  replace S : Kn ok w0 [(p6, .cells #[.int .i64 0, .slice none 0 0, .bool false, .int .i64 0, .int .i64 0, .bool false, .int .i64 0] TLk (0, 0)), (p5, .cells #[.string x.f0, .bool x.f1, .int .i64 x.f2.f0, .int .i64 x.f2.f1, .int .i64 x.f2.f2, .string x.f2.f3] TCh (0, 0)), (p4, .cells #[.int .i64 s, .slice A2 q2.length y2, .bool lat2, .int .i64 tok, .int .i64 at_, .bool false, .int .i64 dg] TLk (0, 0)), (p3, .cells #[.int .i64 c0, .int .i64 c1, .int .i64 c2, .int .i64 c3] TCf (0, 0))] nil tt [V kCh (.slice A2 q2.length y2) q2, V kCh (.slice A q.length cc) q] w4 := S
  cases lat2 with
  | false =>
   replace S : Kn ok w0 [(p6, .cells #[.int .i64 0, .slice none 0 0, .bool false, .int .i64 0, .int .i64 0, .bool false, .int .i64 0] TLk (0, 0)), (p5, .cells #[.string x.f0, .bool x.f1, .int .i64 x.f2.f0, .int .i64 x.f2.f1, .int .i64 x.f2.f2, .string x.f2.f3] TCh (0, 0)), (p4, .cells #[.int .i64 s, .slice A2 q2.length y2, .bool false, .int .i64 tok, .int .i64 at_, .bool false, .int .i64 dg] TLk (0, 0)), (p3, .cells #[.int .i64 c0, .int .i64 c1, .int .i64 c2, .int .i64 c3] TCf (0, 0))] nil tt [V kCh (.slice A2 q2.length y2) q2, V kCh (.slice A q.length cc) q] w4 := S
   have h := HH.out
   rw [if_neg (by simp)] at h
   simp only [Prod.mk.injEq] at h
   obtain ⟨rfl, rfl, rfl, rfl, rfl, rfl, rfl⟩ := h
   clear HH
   have l_0 : w4.cell? ⟨p4, 0, none⟩ = some (.int .i64 s) := S.cell 2 0 rfl rfl
   have l_1 : w4.cell? ⟨p4, 1, none⟩ = some (.slice A2 q2.length y2) := S.cell 2 1 rfl rfl
   have l_2 : w4.cell? ⟨p4, 2, none⟩ = some (.bool false) := S.cell 2 2 rfl rfl
   have l_3 : w4.cell? ⟨p4, 3, none⟩ = some (.int .i64 tok) := S.cell 2 3 rfl rfl
   have l_4 : w4.cell? ⟨p4, 4, none⟩ = some (.int .i64 at_) := S.cell 2 4 rfl rfl
   have l_5 : w4.cell? ⟨p4, 5, none⟩ = some (.bool false) := S.cell 2 5 rfl rfl
   have l_6 : w4.cell? ⟨p4, 6, none⟩ = some (.int .i64 dg) := S.cell 2 6 rfl rfl
   have r_0 : w4.cell? ⟨p6, 0, none⟩ = some (.int .i64 0) := S.cell 0 0 rfl rfl
   have zr_0 : w4.frozen? ⟨p6, 0, none⟩ = false := S.frozen 0 0 rfl
   have r_1 : w4.cell? ⟨p6, 1, none⟩ = some (.slice none 0 0) := S.cell 0 1 rfl rfl
   have zr_1 : w4.frozen? ⟨p6, 1, none⟩ = false := S.frozen 0 1 rfl
   have r_2 : w4.cell? ⟨p6, 2, none⟩ = some (.bool false) := S.cell 0 2 rfl rfl
   have zr_2 : w4.frozen? ⟨p6, 2, none⟩ = false := S.frozen 0 2 rfl
   have r_3 : w4.cell? ⟨p6, 3, none⟩ = some (.int .i64 0) := S.cell 0 3 rfl rfl
   have zr_3 : w4.frozen? ⟨p6, 3, none⟩ = false := S.frozen 0 3 rfl
   have r_4 : w4.cell? ⟨p6, 4, none⟩ = some (.int .i64 0) := S.cell 0 4 rfl rfl
   have zr_4 : w4.frozen? ⟨p6, 4, none⟩ = false := S.frozen 0 4 rfl
   have r_5 : w4.cell? ⟨p6, 5, none⟩ = some (.bool false) := S.cell 0 5 rfl rfl
   have zr_5 : w4.frozen? ⟨p6, 5, none⟩ = false := S.frozen 0 5 rfl
   have r_6 : w4.cell? ⟨p6, 6, none⟩ = some (.int .i64 0) := S.cell 0 6 rfl rfl
   have zr_6 : w4.frozen? ⟨p6, 6, none⟩ = false := S.frozen 0 6 rfl
   go_wp2
   clear l_0 l_1 l_2 l_3 l_4 l_5 l_6 r_0 zr_0 r_1 zr_1 r_2 zr_2 r_3 zr_3 r_4 zr_4 r_5 zr_5 r_6 zr_6
   generalize hg : World.setCell w4 ⟨p6, 0, none⟩ _ = w5
   replace S := S.set 0 hg rfl
   clear hg
   generalize hg : World.setCell w5 ⟨p6, 1, none⟩ _ = w6
   replace S := S.set 0 hg rfl
   clear hg
   generalize hg : World.setCell w6 ⟨p6, 2, none⟩ _ = w7
   replace S := S.set 0 hg rfl
   clear hg
   generalize hg : World.setCell w7 ⟨p6, 3, none⟩ _ = w8
   replace S := S.set 0 hg rfl
   clear hg
   generalize hg : World.setCell w8 ⟨p6, 4, none⟩ _ = w9
   replace S := S.set 0 hg rfl
   clear hg
   generalize hg : World.setCell w9 ⟨p6, 5, none⟩ _ = w10
   replace S := S.set 0 hg rfl
   clear hg
   generalize hg : World.setCell w10 ⟨p6, 6, none⟩ _ = w11
   replace S := S.set 0 hg rfl
   clear hg
   replace S : Kn ok w0 [(p6, .cells #[.int .i64 s, .slice A2 q2.length y2, .bool false, .int .i64 tok, .int .i64 at_, .bool false, .int .i64 dg] TLk (0, 0)), (p5, .cells #[.string x.f0, .bool x.f1, .int .i64 x.f2.f0, .int .i64 x.f2.f1, .int .i64 x.f2.f2, .string x.f2.f3] TCh (0, 0)), (p4, .cells #[.int .i64 s, .slice A2 q2.length y2, .bool false, .int .i64 tok, .int .i64 at_, .bool false, .int .i64 dg] TLk (0, 0)), (p3, .cells #[.int .i64 c0, .int .i64 c1, .int .i64 c2, .int .i64 c3] TCf (0, 0))] nil tt [V kCh (.slice A2 q2.length y2) q2, V kCh (.slice A q.length cc) q] w11 := S
   have b6 := S.get 0 rfl
   have hV := S.out 0 rfl
   have hBe := S.bel
   clear S
   refine bodyPost_ret (results_cell_row rfl _ _ p6 TLk #[.int .i64 s, .slice A2 q2.length y2, .bool false, .int .i64 tok, .int .i64 at_, .bool false, .int .i64 dg] (0, 0) _ rfl b6 Try.underlying30 rfl (by kernel_rfl)) rfl ?_
   exact ⟨A2, y2, rfl, hV, hBe⟩
  | true =>
   replace S : Kn ok w0 [(p6, .cells #[.int .i64 0, .slice none 0 0, .bool false, .int .i64 0, .int .i64 0, .bool false, .int .i64 0] TLk (0, 0)), (p5, .cells #[.string x.f0, .bool x.f1, .int .i64 x.f2.f0, .int .i64 x.f2.f1, .int .i64 x.f2.f2, .string x.f2.f3] TCh (0, 0)), (p4, .cells #[.int .i64 s, .slice A2 q2.length y2, .bool true, .int .i64 tok, .int .i64 at_, .bool false, .int .i64 dg] TLk (0, 0)), (p3, .cells #[.int .i64 c0, .int .i64 c1, .int .i64 c2, .int .i64 c3] TCf (0, 0))] nil tt [V kCh (.slice A2 q2.length y2) q2, V kCh (.slice A q.length cc) q] w4 := S
   have h := HH.out
   rw [if_pos rfl] at h
   simp only [Prod.mk.injEq] at h
   obtain ⟨rfl, rfl, rfl, rfl, rfl, rfl, rfl⟩ := h
   clear HH
   have l_0 : w4.cell? ⟨p4, 0, none⟩ = some (.int .i64 s) := S.cell 2 0 rfl rfl
   have l_1 : w4.cell? ⟨p4, 1, none⟩ = some (.slice A2 q2.length y2) := S.cell 2 1 rfl rfl
   have l_2 : w4.cell? ⟨p4, 2, none⟩ = some (.bool true) := S.cell 2 2 rfl rfl
   have l_3 : w4.cell? ⟨p4, 3, none⟩ = some (.int .i64 tok) := S.cell 2 3 rfl rfl
   have l_4 : w4.cell? ⟨p4, 4, none⟩ = some (.int .i64 at_) := S.cell 2 4 rfl rfl
   have l_5 : w4.cell? ⟨p4, 5, none⟩ = some (.bool false) := S.cell 2 5 rfl rfl
   have l_6 : w4.cell? ⟨p4, 6, none⟩ = some (.int .i64 dg) := S.cell 2 6 rfl rfl
   go_wp2_with fail
   refine (link_Ask.kn (r1 := s) (r2 := []) (r3 := false) (r4 := tok) (r5 := at_) (r6 := true) (r7 := dg) rfl (S.ft 0 rfl)).mono ?_
   rintro e w5 ⟨A3, c3', rfl, hV, hb⟩
   replace S := S.call (f := (V kCh (.slice A3 ([] : List Ch).length c3') ([] : List Ch))) hb (fresh hV)
   clear l_0 l_1 l_2 l_3 l_4 l_5 l_6 hb hV
   have r_0 : w5.cell? ⟨p6, 0, none⟩ = some (.int .i64 0) := S.cell 0 0 rfl rfl
   have zr_0 : w5.frozen? ⟨p6, 0, none⟩ = false := S.frozen 0 0 rfl
   have r_1 : w5.cell? ⟨p6, 1, none⟩ = some (.slice none 0 0) := S.cell 0 1 rfl rfl
   have zr_1 : w5.frozen? ⟨p6, 1, none⟩ = false := S.frozen 0 1 rfl
   have r_2 : w5.cell? ⟨p6, 2, none⟩ = some (.bool false) := S.cell 0 2 rfl rfl
   have zr_2 : w5.frozen? ⟨p6, 2, none⟩ = false := S.frozen 0 2 rfl
   have r_3 : w5.cell? ⟨p6, 3, none⟩ = some (.int .i64 0) := S.cell 0 3 rfl rfl
   have zr_3 : w5.frozen? ⟨p6, 3, none⟩ = false := S.frozen 0 3 rfl
   have r_4 : w5.cell? ⟨p6, 4, none⟩ = some (.int .i64 0) := S.cell 0 4 rfl rfl
   have zr_4 : w5.frozen? ⟨p6, 4, none⟩ = false := S.frozen 0 4 rfl
   have r_5 : w5.cell? ⟨p6, 5, none⟩ = some (.bool false) := S.cell 0 5 rfl rfl
   have zr_5 : w5.frozen? ⟨p6, 5, none⟩ = false := S.frozen 0 5 rfl
   have r_6 : w5.cell? ⟨p6, 6, none⟩ = some (.int .i64 0) := S.cell 0 6 rfl rfl
   have zr_6 : w5.frozen? ⟨p6, 6, none⟩ = false := S.frozen 0 6 rfl
   go_wp2
   clear r_0 zr_0 r_1 zr_1 r_2 zr_2 r_3 zr_3 r_4 zr_4 r_5 zr_5 r_6 zr_6
   generalize hg : World.setCell w5 ⟨p6, 0, none⟩ _ = w6
   replace S := S.set 0 hg rfl
   clear hg
   generalize hg : World.setCell w6 ⟨p6, 1, none⟩ _ = w7
   replace S := S.set 0 hg rfl
   clear hg
   generalize hg : World.setCell w7 ⟨p6, 2, none⟩ _ = w8
   replace S := S.set 0 hg rfl
   clear hg
   generalize hg : World.setCell w8 ⟨p6, 3, none⟩ _ = w9
   replace S := S.set 0 hg rfl
   clear hg
   generalize hg : World.setCell w9 ⟨p6, 4, none⟩ _ = w10
   replace S := S.set 0 hg rfl
   clear hg
   generalize hg : World.setCell w10 ⟨p6, 5, none⟩ _ = w11
   replace S := S.set 0 hg rfl
   clear hg
   generalize hg : World.setCell w11 ⟨p6, 6, none⟩ _ = w12
   replace S := S.set 0 hg rfl
   clear hg
   replace S : Kn ok w0 [(p6, .cells #[.int .i64 s, .slice A3 ([] : List Ch).length c3', .bool false, .int .i64 tok, .int .i64 at_, .bool true, .int .i64 dg] TLk (0, 0)), (p5, .cells #[.string x.f0, .bool x.f1, .int .i64 x.f2.f0, .int .i64 x.f2.f1, .int .i64 x.f2.f2, .string x.f2.f3] TCh (0, 0)), (p4, .cells #[.int .i64 s, .slice A2 q2.length y2, .bool true, .int .i64 tok, .int .i64 at_, .bool false, .int .i64 dg] TLk (0, 0)), (p3, .cells #[.int .i64 c0, .int .i64 c1, .int .i64 c2, .int .i64 c3] TCf (0, 0))] nil tt [V kCh (.slice A3 ([] : List Ch).length c3') ([] : List Ch), V kCh (.slice A2 q2.length y2) q2, V kCh (.slice A q.length cc) q] w12 := S
   have b6 := S.get 0 rfl
   have hV := S.out 0 rfl
   have hBe := S.bel
   clear S
   refine bodyPost_ret (results_cell_row rfl _ _ p6 TLk #[.int .i64 s, .slice A3 ([] : List Ch).length c3', .bool false, .int .i64 tok, .int .i64 at_, .bool true, .int .i64 dg] (0, 0) _ rfl b6 Try.underlying30 rfl (by kernel_rfl)) rfl ?_
   exact ⟨A3, c3', rfl, hV, hBe⟩
theorem push_kn {ok : Nat → Prop} {c0 c1 c2 c3 s : Int} {A : Option Addr} {cc : Nat} {q : List Ch} {lat : Bool} {tok at_ : Int} {sn : Bool} {dg : Int} (x : Ch) {r0 : Int} {r1 : List Ch} {r2 : Bool} {r3 r4 : Int} {r5 : Bool} {r6 : Int} {w : World}
  (hq : q.length ≤ 1000) (h : pushK c0 s q lat tok at_ sn dg x = (r0, r1, r2, r3, r4, r5, r6)) (g : (V kCh (.slice A q.length cc) q).P w ok) :
  Calls Try.prog 19 #[.agg #[.int .i64 c0, .int .i64 c1, .int .i64 c2, .int .i64 c3], .agg #[.int .i64 s, .slice A q.length cc, .bool lat, .int .i64 tok, .int .i64 at_, .bool sn, .int .i64 dg], .agg #[.string x.f0, .bool x.f1, .int .i64 x.f2.f0, .int .i64 x.f2.f1, .int .i64 x.f2.f2, .string x.f2.f3]] w
   fun e w' => ∃ (A' : Option Addr) (c' : Nat), e = .returned (.agg #[.int .i64 r0, .slice A' r1.length c', .bool r2, .int .i64 r3, .int .i64 r4, .bool r5, .int .i64 r6]) ∧ (V kCh (.slice A' r1.length c') r1).P w' (fun k => ok k ∨ w.heap.size ≤ k) ∧ Below w.heap.size w w' :=
 push_go ok c0 c1 c2 c3 s A cc q lat tok at_ sn dg x r0 r1 r2 r3 r4 r5 r6 w w (Kn.enter ok w (by simpa using g)) hq h
set_option maxHeartbeats 8000000 in
theorem refEmit_no_go (ok : Nat → Prop) (k1 k2 : Nat) (c0 c1 c2 c3 s : Int) (A : Option Addr) (cc : Nat) (q : List Ch) (lat : Bool) (tok at_ : Int) (sn : Bool) (dg : Int) (B : Option Addr) (mc : Nat) (t : List Se) (now : Int) (b1 b2 b3 : Bool) (w0 w : World)
  (S : Kn ok w0 [] nil tt [V kSe (.slice B t.length mc) t, V kCh (.slice A q.length cc) q] w)
  (h1 : rollcallref18_May.f k1 c0 c1 c2 c3 s q lat tok at_ sn dg = some b1) (h2 : rollcallref05_May.f k2 t = some b2) (h3 : rollcallref16_Time.f now = some b3) (hq0 : (b1 && b2 && b3) = false) :
  Calls Try.prog 25 #[.agg #[.int .i64 c0, .int .i64 c1, .int .i64 c2, .int .i64 c3], .agg #[.int .i64 s, .slice A q.length cc, .bool lat, .int .i64 tok, .int .i64 at_, .bool sn, .int .i64 dg], .slice B t.length mc, .int .i64 now] w
   fun e w' => e = .returned (.tuple #[.agg #[.int .i64 s, .slice A q.length cc, .bool lat, .int .i64 tok, .int .i64 at_, .bool sn, .int .i64 dg], .slice none 0 0]) ∧ (V kCh (.slice A q.length cc) q).P w' (fun k => ok k ∨ w0.heap.size ≤ k) ∧ Below w0.heap.size w0 w' := by
 have F1 := Aside0.mk h1
 have F2 := Aside0.mk h2
 have F3 := Aside0.mk h3
 clear h1 h2 h3
 go_enter Try.func25, Try.ntmps25
 go_upto_region 1 with (fail)
 generalize hg : World.alloc _ _ = w1
 replace S := S.new3 hg
 clear hg
 generalize w.heap.size + 2 = p8 at S ⊢
 generalize w.heap.size + 1 = p5 at S ⊢
 generalize w.heap.size = p4 at S ⊢
 replace S : Kn ok w0 [(p8, .cells #[.int .i64 0, .slice none 0 0, .bool false, .int .i64 0, .int .i64 0, .bool false, .int .i64 0] TLk (0, 0)), (p5, .cells #[.int .i64 s, .slice A q.length cc, .bool lat, .int .i64 tok, .int .i64 at_, .bool sn, .int .i64 dg] TLk (0, 0)), (p4, .cells #[.int .i64 c0, .int .i64 c1, .int .i64 c2, .int .i64 c3] TCf (0, 0))] nil tt [V kSe (.slice B t.length mc) t, V kCh (.slice A q.length cc) q] w1 := S
 have b4_0 : w1.cell? ⟨p4, 0, none⟩ = some (.int .i64 c0) := S.cell 2 0 rfl rfl
 have b4_1 : w1.cell? ⟨p4, 1, none⟩ = some (.int .i64 c1) := S.cell 2 1 rfl rfl
 have b4_2 : w1.cell? ⟨p4, 2, none⟩ = some (.int .i64 c2) := S.cell 2 2 rfl rfl
 have b4_3 : w1.cell? ⟨p4, 3, none⟩ = some (.int .i64 c3) := S.cell 2 3 rfl rfl
 have b5_0 : w1.cell? ⟨p5, 0, none⟩ = some (.int .i64 s) := S.cell 1 0 rfl rfl
 have b5_1 : w1.cell? ⟨p5, 1, none⟩ = some (.slice A q.length cc) := S.cell 1 1 rfl rfl
 have b5_2 : w1.cell? ⟨p5, 2, none⟩ = some (.bool lat) := S.cell 1 2 rfl rfl
 have b5_3 : w1.cell? ⟨p5, 3, none⟩ = some (.int .i64 tok) := S.cell 1 3 rfl rfl
 have b5_4 : w1.cell? ⟨p5, 4, none⟩ = some (.int .i64 at_) := S.cell 1 4 rfl rfl
 have b5_5 : w1.cell? ⟨p5, 5, none⟩ = some (.bool sn) := S.cell 1 5 rfl rfl
 have b5_6 : w1.cell? ⟨p5, 6, none⟩ = some (.int .i64 dg) := S.cell 1 6 rfl rfl
 go_wp2_with fail
 refine (rollcallref18_May.kn k1 F1.out (S.ft 1 rfl)).mono ?_
 rintro e w2 ⟨rfl, hb⟩
 replace S := S.below hb
 clear b4_0 b4_1 b4_2 b4_3 b5_0 b5_1 b5_2 b5_3 b5_4 b5_5 b5_6 hb
 cases b1 with
 | false =>
  have b5_0 : w2.cell? ⟨p5, 0, none⟩ = some (.int .i64 s) := S.cell 1 0 rfl rfl
  have b5_1 : w2.cell? ⟨p5, 1, none⟩ = some (.slice A q.length cc) := S.cell 1 1 rfl rfl
  have b5_2 : w2.cell? ⟨p5, 2, none⟩ = some (.bool lat) := S.cell 1 2 rfl rfl
  have b5_3 : w2.cell? ⟨p5, 3, none⟩ = some (.int .i64 tok) := S.cell 1 3 rfl rfl
  have b5_4 : w2.cell? ⟨p5, 4, none⟩ = some (.int .i64 at_) := S.cell 1 4 rfl rfl
  have b5_5 : w2.cell? ⟨p5, 5, none⟩ = some (.bool sn) := S.cell 1 5 rfl rfl
  have b5_6 : w2.cell? ⟨p5, 6, none⟩ = some (.int .i64 dg) := S.cell 1 6 rfl rfl
  have b8_0 : w2.cell? ⟨p8, 0, none⟩ = some (.int .i64 0) := S.cell 0 0 rfl rfl
  have zb8_0 : w2.frozen? ⟨p8, 0, none⟩ = false := S.frozen 0 0 rfl
  have b8_1 : w2.cell? ⟨p8, 1, none⟩ = some (.slice none 0 0) := S.cell 0 1 rfl rfl
  have zb8_1 : w2.frozen? ⟨p8, 1, none⟩ = false := S.frozen 0 1 rfl
  have b8_2 : w2.cell? ⟨p8, 2, none⟩ = some (.bool false) := S.cell 0 2 rfl rfl
  have zb8_2 : w2.frozen? ⟨p8, 2, none⟩ = false := S.frozen 0 2 rfl
  have b8_3 : w2.cell? ⟨p8, 3, none⟩ = some (.int .i64 0) := S.cell 0 3 rfl rfl
  have zb8_3 : w2.frozen? ⟨p8, 3, none⟩ = false := S.frozen 0 3 rfl
  have b8_4 : w2.cell? ⟨p8, 4, none⟩ = some (.int .i64 0) := S.cell 0 4 rfl rfl
  have zb8_4 : w2.frozen? ⟨p8, 4, none⟩ = false := S.frozen 0 4 rfl
  have b8_5 : w2.cell? ⟨p8, 5, none⟩ = some (.bool false) := S.cell 0 5 rfl rfl
  have zb8_5 : w2.frozen? ⟨p8, 5, none⟩ = false := S.frozen 0 5 rfl
  have b8_6 : w2.cell? ⟨p8, 6, none⟩ = some (.int .i64 0) := S.cell 0 6 rfl rfl
  have zb8_6 : w2.frozen? ⟨p8, 6, none⟩ = false := S.frozen 0 6 rfl
  go_wp2
  clear b5_0 b5_1 b5_2 b5_3 b5_4 b5_5 b5_6 b8_0 zb8_0 b8_1 zb8_1 b8_2 zb8_2 b8_3 zb8_3 b8_4 zb8_4 b8_5 zb8_5 b8_6 zb8_6
  generalize hg : World.setCell w2 ⟨p8, 0, none⟩ _ = w3
  replace S := S.set 0 hg rfl
  clear hg
  generalize hg : World.setCell w3 ⟨p8, 1, none⟩ _ = w4
  replace S := S.set 0 hg rfl
  clear hg
  generalize hg : World.setCell w4 ⟨p8, 2, none⟩ _ = w5
  replace S := S.set 0 hg rfl
  clear hg
  generalize hg : World.setCell w5 ⟨p8, 3, none⟩ _ = w6
  replace S := S.set 0 hg rfl
  clear hg
  generalize hg : World.setCell w6 ⟨p8, 4, none⟩ _ = w7
  replace S := S.set 0 hg rfl
  clear hg
  generalize hg : World.setCell w7 ⟨p8, 5, none⟩ _ = w8
  replace S := S.set 0 hg rfl
  clear hg
  generalize hg : World.setCell w8 ⟨p8, 6, none⟩ _ = w9
  replace S := S.set 0 hg rfl
  clear hg
  replace S : Kn ok w0 [(p8, .cells #[.int .i64 s, .slice A q.length cc, .bool lat, .int .i64 tok, .int .i64 at_, .bool sn, .int .i64 dg] TLk (0, 0)), (p5, .cells #[.int .i64 s, .slice A q.length cc, .bool lat, .int .i64 tok, .int .i64 at_, .bool sn, .int .i64 dg] TLk (0, 0)), (p4, .cells #[.int .i64 c0, .int .i64 c1, .int .i64 c2, .int .i64 c3] TCf (0, 0))] nil tt [V kSe (.slice B t.length mc) t, V kCh (.slice A q.length cc) q] w9 := S
  have b6 := S.get 0 rfl
  have hV := S.out 1 rfl
  have hBe := S.bel
  clear S
  refine bodyPost_ret (results_ct rfl _ _ p8 TLk #[.int .i64 s, .slice A q.length cc, .bool lat, .int .i64 tok, .int .i64 at_, .bool sn, .int .i64 dg] (0, 0) _ rfl b6 Try.underlying30 rfl (by kernel_rfl)) rfl ?_
  exact ⟨rfl, hV, hBe⟩
 | true =>
  go_wp2_with fail
  refine (rollcallref05_May.kn k2 F2.out (S.ft 0 rfl)).mono ?_
  rintro e w3 ⟨rfl, hb⟩
  replace S := S.below hb
  clear hb
  cases b2 with
  | false =>
   have b5_0 : w3.cell? ⟨p5, 0, none⟩ = some (.int .i64 s) := S.cell 1 0 rfl rfl
   have b5_1 : w3.cell? ⟨p5, 1, none⟩ = some (.slice A q.length cc) := S.cell 1 1 rfl rfl
   have b5_2 : w3.cell? ⟨p5, 2, none⟩ = some (.bool lat) := S.cell 1 2 rfl rfl
   have b5_3 : w3.cell? ⟨p5, 3, none⟩ = some (.int .i64 tok) := S.cell 1 3 rfl rfl
   have b5_4 : w3.cell? ⟨p5, 4, none⟩ = some (.int .i64 at_) := S.cell 1 4 rfl rfl
   have b5_5 : w3.cell? ⟨p5, 5, none⟩ = some (.bool sn) := S.cell 1 5 rfl rfl
   have b5_6 : w3.cell? ⟨p5, 6, none⟩ = some (.int .i64 dg) := S.cell 1 6 rfl rfl
   have b8_0 : w3.cell? ⟨p8, 0, none⟩ = some (.int .i64 0) := S.cell 0 0 rfl rfl
   have zb8_0 : w3.frozen? ⟨p8, 0, none⟩ = false := S.frozen 0 0 rfl
   have b8_1 : w3.cell? ⟨p8, 1, none⟩ = some (.slice none 0 0) := S.cell 0 1 rfl rfl
   have zb8_1 : w3.frozen? ⟨p8, 1, none⟩ = false := S.frozen 0 1 rfl
   have b8_2 : w3.cell? ⟨p8, 2, none⟩ = some (.bool false) := S.cell 0 2 rfl rfl
   have zb8_2 : w3.frozen? ⟨p8, 2, none⟩ = false := S.frozen 0 2 rfl
   have b8_3 : w3.cell? ⟨p8, 3, none⟩ = some (.int .i64 0) := S.cell 0 3 rfl rfl
   have zb8_3 : w3.frozen? ⟨p8, 3, none⟩ = false := S.frozen 0 3 rfl
   have b8_4 : w3.cell? ⟨p8, 4, none⟩ = some (.int .i64 0) := S.cell 0 4 rfl rfl
   have zb8_4 : w3.frozen? ⟨p8, 4, none⟩ = false := S.frozen 0 4 rfl
   have b8_5 : w3.cell? ⟨p8, 5, none⟩ = some (.bool false) := S.cell 0 5 rfl rfl
   have zb8_5 : w3.frozen? ⟨p8, 5, none⟩ = false := S.frozen 0 5 rfl
   have b8_6 : w3.cell? ⟨p8, 6, none⟩ = some (.int .i64 0) := S.cell 0 6 rfl rfl
   have zb8_6 : w3.frozen? ⟨p8, 6, none⟩ = false := S.frozen 0 6 rfl
   go_wp2
   clear b5_0 b5_1 b5_2 b5_3 b5_4 b5_5 b5_6 b8_0 zb8_0 b8_1 zb8_1 b8_2 zb8_2 b8_3 zb8_3 b8_4 zb8_4 b8_5 zb8_5 b8_6 zb8_6
   generalize hg : World.setCell w3 ⟨p8, 0, none⟩ _ = w4
   replace S := S.set 0 hg rfl
   clear hg
   generalize hg : World.setCell w4 ⟨p8, 1, none⟩ _ = w5
   replace S := S.set 0 hg rfl
   clear hg
   generalize hg : World.setCell w5 ⟨p8, 2, none⟩ _ = w6
   replace S := S.set 0 hg rfl
   clear hg
   generalize hg : World.setCell w6 ⟨p8, 3, none⟩ _ = w7
   replace S := S.set 0 hg rfl
   clear hg
   generalize hg : World.setCell w7 ⟨p8, 4, none⟩ _ = w8
   replace S := S.set 0 hg rfl
   clear hg
   generalize hg : World.setCell w8 ⟨p8, 5, none⟩ _ = w9
   replace S := S.set 0 hg rfl
   clear hg
   generalize hg : World.setCell w9 ⟨p8, 6, none⟩ _ = w10
   replace S := S.set 0 hg rfl
   clear hg
   replace S : Kn ok w0 [(p8, .cells #[.int .i64 s, .slice A q.length cc, .bool lat, .int .i64 tok, .int .i64 at_, .bool sn, .int .i64 dg] TLk (0, 0)), (p5, .cells #[.int .i64 s, .slice A q.length cc, .bool lat, .int .i64 tok, .int .i64 at_, .bool sn, .int .i64 dg] TLk (0, 0)), (p4, .cells #[.int .i64 c0, .int .i64 c1, .int .i64 c2, .int .i64 c3] TCf (0, 0))] nil tt [V kSe (.slice B t.length mc) t, V kCh (.slice A q.length cc) q] w10 := S
   have b6 := S.get 0 rfl
   have hV := S.out 1 rfl
   have hBe := S.bel
   clear S
   refine bodyPost_ret (results_ct rfl _ _ p8 TLk #[.int .i64 s, .slice A q.length cc, .bool lat, .int .i64 tok, .int .i64 at_, .bool sn, .int .i64 dg] (0, 0) _ rfl b6 Try.underlying30 rfl (by kernel_rfl)) rfl ?_
   exact ⟨rfl, hV, hBe⟩
  | true =>
   obtain rfl : b3 = false := by simpa using hq0
   go_wp2_with fail
   refine (rollcallref16_Time.kn F3.out).mono ?_
   rintro e w4 ⟨rfl, hb⟩
   replace S := S.below hb
   clear hb
   have b5_0 : w4.cell? ⟨p5, 0, none⟩ = some (.int .i64 s) := S.cell 1 0 rfl rfl
   have b5_1 : w4.cell? ⟨p5, 1, none⟩ = some (.slice A q.length cc) := S.cell 1 1 rfl rfl
   have b5_2 : w4.cell? ⟨p5, 2, none⟩ = some (.bool lat) := S.cell 1 2 rfl rfl
   have b5_3 : w4.cell? ⟨p5, 3, none⟩ = some (.int .i64 tok) := S.cell 1 3 rfl rfl
   have b5_4 : w4.cell? ⟨p5, 4, none⟩ = some (.int .i64 at_) := S.cell 1 4 rfl rfl
   have b5_5 : w4.cell? ⟨p5, 5, none⟩ = some (.bool sn) := S.cell 1 5 rfl rfl
   have b5_6 : w4.cell? ⟨p5, 6, none⟩ = some (.int .i64 dg) := S.cell 1 6 rfl rfl
   have b8_0 : w4.cell? ⟨p8, 0, none⟩ = some (.int .i64 0) := S.cell 0 0 rfl rfl
   have zb8_0 : w4.frozen? ⟨p8, 0, none⟩ = false := S.frozen 0 0 rfl
   have b8_1 : w4.cell? ⟨p8, 1, none⟩ = some (.slice none 0 0) := S.cell 0 1 rfl rfl
   have zb8_1 : w4.frozen? ⟨p8, 1, none⟩ = false := S.frozen 0 1 rfl
   have b8_2 : w4.cell? ⟨p8, 2, none⟩ = some (.bool false) := S.cell 0 2 rfl rfl
   have zb8_2 : w4.frozen? ⟨p8, 2, none⟩ = false := S.frozen 0 2 rfl
   have b8_3 : w4.cell? ⟨p8, 3, none⟩ = some (.int .i64 0) := S.cell 0 3 rfl rfl
   have zb8_3 : w4.frozen? ⟨p8, 3, none⟩ = false := S.frozen 0 3 rfl
   have b8_4 : w4.cell? ⟨p8, 4, none⟩ = some (.int .i64 0) := S.cell 0 4 rfl rfl
   have zb8_4 : w4.frozen? ⟨p8, 4, none⟩ = false := S.frozen 0 4 rfl
   have b8_5 : w4.cell? ⟨p8, 5, none⟩ = some (.bool false) := S.cell 0 5 rfl rfl
   have zb8_5 : w4.frozen? ⟨p8, 5, none⟩ = false := S.frozen 0 5 rfl
   have b8_6 : w4.cell? ⟨p8, 6, none⟩ = some (.int .i64 0) := S.cell 0 6 rfl rfl
   have zb8_6 : w4.frozen? ⟨p8, 6, none⟩ = false := S.frozen 0 6 rfl
   go_wp2
   clear b5_0 b5_1 b5_2 b5_3 b5_4 b5_5 b5_6 b8_0 zb8_0 b8_1 zb8_1 b8_2 zb8_2 b8_3 zb8_3 b8_4 zb8_4 b8_5 zb8_5 b8_6 zb8_6
   generalize hg : World.setCell w4 ⟨p8, 0, none⟩ _ = w5
   replace S := S.set 0 hg rfl
   clear hg
   generalize hg : World.setCell w5 ⟨p8, 1, none⟩ _ = w6
   replace S := S.set 0 hg rfl
   clear hg
   generalize hg : World.setCell w6 ⟨p8, 2, none⟩ _ = w7
   replace S := S.set 0 hg rfl
   clear hg
   generalize hg : World.setCell w7 ⟨p8, 3, none⟩ _ = w8
   replace S := S.set 0 hg rfl
   clear hg
   generalize hg : World.setCell w8 ⟨p8, 4, none⟩ _ = w9
   replace S := S.set 0 hg rfl
   clear hg
   generalize hg : World.setCell w9 ⟨p8, 5, none⟩ _ = w10
   replace S := S.set 0 hg rfl
   clear hg
   generalize hg : World.setCell w10 ⟨p8, 6, none⟩ _ = w11
   replace S := S.set 0 hg rfl
   clear hg
   replace S : Kn ok w0 [(p8, .cells #[.int .i64 s, .slice A q.length cc, .bool lat, .int .i64 tok, .int .i64 at_, .bool sn, .int .i64 dg] TLk (0, 0)), (p5, .cells #[.int .i64 s, .slice A q.length cc, .bool lat, .int .i64 tok, .int .i64 at_, .bool sn, .int .i64 dg] TLk (0, 0)), (p4, .cells #[.int .i64 c0, .int .i64 c1, .int .i64 c2, .int .i64 c3] TCf (0, 0))] nil tt [V kSe (.slice B t.length mc) t, V kCh (.slice A q.length cc) q] w11 := S
   have b6 := S.get 0 rfl
   have hV := S.out 1 rfl
   have hBe := S.bel
   clear S
   refine bodyPost_ret (results_ct rfl _ _ p8 TLk #[.int .i64 s, .slice A q.length cc, .bool lat, .int .i64 tok, .int .i64 at_, .bool sn, .int .i64 dg] (0, 0) _ rfl b6 Try.underlying30 rfl (by kernel_rfl)) rfl ?_
   exact ⟨rfl, hV, hBe⟩
/-- What any link tells next: of a link, a view or a tick that may not be, nothing. -/
def emitK (c0 c1 c2 c3 s : Int) (q : List Ch) (lat : Bool) (tok at_ : Int) (sn : Bool) (dg : Int) (t : List Se) (now : Int) : Option St :=
 if mayK c0 c1 c2 c3 s q lat tok at_ sn dg = true ∧ mayT t = true ∧ 0 ≤ now ∧ now ≤ 1099511627776 then emitP c0 c1 c2 c3 now t 50 ⟨s, q, sn, tok, at_, dg, []⟩ else some ⟨s, q, sn, tok, at_, dg, []⟩
theorem emitK_all (c0 c1 c2 c3 s : Int) (q : List Ch) (lat : Bool) (tok at_ : Int) (sn : Bool) (dg : Int) (t : List Se) (now : Int) (hq : q.length ≤ 40) :
  ∃ R, emitK c0 c1 c2 c3 s q lat tok at_ sn dg t now = some R ∧ R.fs.length ≤ q.length + 2 ∧ R.q.length ≤ q.length ∧ ∀ f ∈ R.fs, f.f6 = t ∨ f.f6 = [] := by
 unfold emitK
 by_cases h : mayK c0 c1 c2 c3 s q lat tok at_ sn dg = true ∧ mayT t = true ∧ 0 ≤ now ∧ now ≤ 1099511627776
 ·rw [if_pos h]
  have hm := (mayK_iff _ _ _ _ _ _ _ _ _ _ _).1 h.1
  have h1 := hm.1
  unfold XV17.OneP at h1
  have hr : XV17.rounds c3 now ⟨s, q, sn, tok, at_, dg, []⟩ ≤ q.length + 2 := by
   unfold XV17.rounds
   dsimp only
   split <;> split <;> omega
  obtain ⟨R, hR, hA, hB, hC⟩ := XV17.emit_all c0 c1 c2 c3 now t (by omega) 50 ⟨s, q, sn, tok, at_, dg, []⟩ (by omega)
  refine ⟨R, hR, ?_, hB, hC (fun f hf => by cases hf)⟩
  simp only [List.length_nil] at hA
  omega
 ·rw [if_neg h]
  exact ⟨_, rfl, Nat.zero_le _, Nat.le_refl _, fun f hf => by cases hf⟩
theorem emit_kn {ok : Nat → Prop} {c0 c1 c2 c3 s : Int} {A : Option Addr} {cc : Nat} {q : List Ch} {lat : Bool} {tok at_ : Int} {sn : Bool} {dg : Int} {B : Option Addr} {mc : Nat} {t : List Se} {now : Int} {w : World} {R : St}
  (hq : q.length ≤ 40) (hqs : ∀ x ∈ q, x.f0.size ≤ 9223372036854775807) (ht : t.length ≤ 40) (hts : ∀ x ∈ t, x.f0.size ≤ 9223372036854775807)
  (hR : emitK c0 c1 c2 c3 s q lat tok at_ sn dg t now = some R) (g1 : (V kCh (.slice A q.length cc) q).P w ok) (g2 : (V kSe (.slice B t.length mc) t).P w ok) :
  Calls Try.prog 24 #[.agg #[.int .i64 c0, .int .i64 c1, .int .i64 c2, .int .i64 c3], .agg #[.int .i64 s, .slice A q.length cc, .bool lat, .int .i64 tok, .int .i64 at_, .bool sn, .int .i64 dg], .slice B t.length mc, .int .i64 now] w
   fun e w' => ∃ (A' : Option Addr) (c' : Nat) (A2 : Option Addr) (c2' : Nat), e = .returned (.tuple #[.agg #[.int .i64 R.s, .slice A' R.q.length c', .bool lat, .int .i64 R.tok, .int .i64 R.at_, .bool R.sn, .int .i64 R.dg], .slice A2 R.fs.length c2']) ∧ (V kCh (.slice A' R.q.length c') R.q).P w' (fun k => ok k ∨ w.heap.size ≤ k) ∧ (V kFr (.slice A2 R.fs.length c2') R.fs).P w' (fun k => ok k ∨ w.heap.size ≤ k) ∧ Below w.heap.size w w' := by
 unfold emitK at hR
 have e1 := linkMayK 200 c0 c1 c2 c3 s q lat tok at_ sn dg hq hqs (by omega)
 have e2 := digMayT_b 200 t (by omega) hts (by omega)
 have e3 := ltime_b now
 by_cases h : mayK c0 c1 c2 c3 s q lat tok at_ sn dg = true ∧ mayT t = true ∧ 0 ≤ now ∧ now ≤ 1099511627776
 ·rw [if_pos h] at hR
  have hm := (mayK_iff _ _ _ _ _ _ _ _ _ _ _).1 h.1
  obtain ⟨h1, h2, h3, h4, h5, h6⟩ := hm
  subst h4
  rw [h.1] at e1
  rw [h.2.1] at e2
  rw [decide_eq_true h.2.2] at e3
  refine (emit_yes ok 200 200 50 c0 c1 c2 c3 s A cc q tok at_ sn dg B mc t now w g1 g2 e1 e2 e3 h2.1 h5.1 h5.2 h.2.2.1 h.2.2.2 ht hts (by omega) R hR).mono ?_
  rintro e w' ⟨A', c', vo, rfl, hV, hF, hb⟩
  obtain ⟨A2, c2', rfl⟩ := Kd.V_slice hF
  exact ⟨A', c', A2, c2', rfl, hV, V_any hF, hb⟩
 ·rw [if_neg h] at hR
  obtain rfl := Option.some.inj hR
  have r1 := Kd.V_reads' (e := 0) (base := 0) g1
  have r2 := Kd.V_reads' (e := 0) (base := 0) g2
  refine (emit_no 200 200 c0 c1 c2 c3 s A cc q lat tok at_ sn dg B mc t now _ _ _ w r1.2.2 r1.2.1 r2.2.2 r2.2.1 e1 e2 e3 ?_).mono ?_
  ·by_cases a : mayK c0 c1 c2 c3 s q lat tok at_ sn dg = true
   ·by_cases b : mayT t = true
    ·rw [decide_eq_false (fun c => h ⟨a, b, c⟩), Bool.and_false]
    ·rw [Bool.eq_false_iff.mpr b]; simp
   ·rw [Bool.eq_false_iff.mpr a]; simp
  ·rintro e w' ⟨rfl, hb⟩
   exact ⟨A, cc, none, 0, rfl, (V kCh _ q).mono ((V kCh _ q).step g1 (fun k _ hk => hb.block k hk)) (fun k hk => .inl hk), V_any (Kd.V_nil kFr 0 w' 0 _), hb⟩
theorem refEmit_kn {ok : Nat → Prop} {c0 c1 c2 c3 s : Int} {A : Option Addr} {cc : Nat} {q : List Ch} {lat : Bool} {tok at_ : Int} {sn : Bool} {dg : Int} {B : Option Addr} {mc : Nat} {t : List Se} {now : Int} {w : World} {R : St}
  (hq : q.length ≤ 40) (hR : emitK c0 c1 c2 c3 s q lat tok at_ sn dg t now = some R) (g1 : (V kCh (.slice A q.length cc) q).P w ok) (g2 : (V kSe (.slice B t.length mc) t).P w ok) :
  Calls Try.prog 25 #[.agg #[.int .i64 c0, .int .i64 c1, .int .i64 c2, .int .i64 c3], .agg #[.int .i64 s, .slice A q.length cc, .bool lat, .int .i64 tok, .int .i64 at_, .bool sn, .int .i64 dg], .slice B t.length mc, .int .i64 now] w
   fun e w' => ∃ (A' : Option Addr) (c' : Nat) (A2 : Option Addr) (c2' : Nat), e = .returned (.tuple #[.agg #[.int .i64 R.s, .slice A' R.q.length c', .bool lat, .int .i64 R.tok, .int .i64 R.at_, .bool R.sn, .int .i64 R.dg], .slice A2 R.fs.length c2']) ∧ (V kCh (.slice A' R.q.length c') R.q).P w' (fun k => ok k ∨ w.heap.size ≤ k) ∧ (V kFr (.slice A2 R.fs.length c2') R.fs).P w' (fun k => ok k ∨ w.heap.size ≤ k) ∧ Below w.heap.size w w' := by
 unfold emitK at hR
 have e1 := XV17.refMayK 200 c0 c1 c2 c3 s q lat tok at_ sn dg hq (by omega)
 have e2 := XV17.refMayT_b 200 t (by omega)
 have e3 := XV17.time_b now
 by_cases h : mayK c0 c1 c2 c3 s q lat tok at_ sn dg = true ∧ mayT t = true ∧ 0 ≤ now ∧ now ≤ 1099511627776
 ·rw [if_pos h] at hR
  have hm := (mayK_iff _ _ _ _ _ _ _ _ _ _ _).1 h.1
  obtain ⟨h1, h2, h3, h4, h5, h6⟩ := hm
  subst h4
  rw [h.1] at e1
  rw [h.2.1] at e2
  rw [decide_eq_true h.2.2] at e3
  exact refEmit_yes ok 200 200 50 c0 c1 c2 c3 s A cc q tok at_ sn dg B mc t now w g1 g2 e1 e2 e3 h2.1 h5.1 h5.2 h.2.2.1 h.2.2.2 h.2.1 (by omega) (by omega) R hR
 ·rw [if_neg h] at hR
  obtain rfl := Option.some.inj hR
  refine (refEmit_no_go ok 200 200 c0 c1 c2 c3 s A cc q lat tok at_ sn dg B mc t now _ _ _ w w (Kn.enter ok w (by simp only [List.mem_cons, List.not_mem_nil, or_false]; rintro f (rfl | rfl); exact g2; exact g1)) e1 e2 e3 ?_).mono ?_
  ·by_cases a : mayK c0 c1 c2 c3 s q lat tok at_ sn dg = true
   ·by_cases b : mayT t = true
    ·rw [decide_eq_false (fun c => h ⟨a, b, c⟩), Bool.and_false]
    ·rw [Bool.eq_false_iff.mpr b]; simp
   ·rw [Bool.eq_false_iff.mpr a]; simp
  ·rintro e w' ⟨rfl, hV, hb⟩
   exact ⟨A, cc, none, 0, rfl, hV, V_any (Kd.V_nil kFr 0 w' 0 _), hb⟩

end Go.Proofs.Ytmigglldahkngaa.XTell
end

section
/- More of Kn: a box that was made on the way. -/
namespace Go.Proofs.Ytmigglldahkngaa.XSt
set_option linter.unusedVariables false
set_option linter.unusedSimpArgs false
open Go.RowKit Go.Proofs.YtmigglldahkngaaW.PrintWords Go.Proofs.YtmigglldahkngaaW.PrintLast Go.Proofs.YtmigglldahkngaaW.PrintMore Go.Proofs.Ytmigglldahkngaa.XMem
variable {ok : Nat → Prop} {w0 w w1 : World} {L : List (Nat × Obj)} {u : Value} {U : Ft} {I : List Ft}
/-- A box that was made on the way. -/
theorem Kn.newAt (S : Kn ok w0 L u U I w) (hb : Below w.heap.size w w1) {p : Nat} {o : Obj} (hp : w.heap.size ≤ p) (ho : w1.heap[p]? = some o) : Kn ok w0 ((p, o) :: L) u U I w1 := by
 have S1 := S.below hb
 refine ⟨S1.bel, ?_, ?_, ?_, ?_, ?_, ?_⟩
 ·intro x hx
  rcases List.mem_cons.1 hx with rfl | hx
  ·exact ho
  ·exact S1.mem x hx
 ·intro x hx
  rcases List.mem_cons.1 hx with rfl | hx
  ·exact Nat.le_trans S.bel.size hp
  ·exact S.base x hx
 ·refine List.pairwise_cons.2 ⟨fun x hx => ?_, S.nod⟩
  have := S.lt hx
  show p ≠ x.1
  omega
 ·refine U.mono (U.step (U.bound S.own) (fun k _ hk => hb.block k hk)) (fun k hk => ⟨hk.1.1, fun x hx => ?_⟩)
  rcases List.mem_cons.1 hx with rfl | hx
  ·have := hk.2
   show k ≠ p
   omega
  ·exact hk.1.2 x hx
 ·intro k hk
  obtain ⟨h1, h2, h3⟩ := S.oob k hk
  refine ⟨fun x hx => ?_, Nat.lt_of_lt_of_le h2 hb.size, h3⟩
  rcases List.mem_cons.1 hx with rfl | hx
  ·show k ≠ p
   omega
  ·exact h1 x hx
 ·intro f hf
  refine f.mono (f.step (f.bound (S.ims f hf)) (fun k _ hk => hb.block k hk)) (fun k hk => ⟨⟨hk.1.1.1, fun x hx => ?_⟩, hk.1.2⟩)
  rcases List.mem_cons.1 hx with rfl | hx
  ·have := hk.2
   show k ≠ p
   omega
  ·exact hk.1.1.2 x hx
theorem Ft.below {f : Ft} (h : f.P w ok) (hb : Below w.heap.size w w1) : f.P w1 ok := f.step h (fun k _ hk => hb.block k hk)
theorem Ft.all {f : Ft} (h : f.P w ok) : f.P w (fun _ => True) := f.mono h (fun _ _ => trivial)
end Go.Proofs.Ytmigglldahkngaa.XSt
end
