/- heap.Heap, walked: down. -/
import Derived.Test.YtejhkadalahcjaaXHeapUp
namespace Go.Proofs.Ytejhkadalahcjaa.XHeap
open Go.RowKit Go.Proofs.YtejhkadalahcjaaW.PrintWords Go.Proofs.YtejhkadalahcjaaW.PrintLast Go.Proofs.YtejhkadalahcjaaW.PrintMore Go.Proofs.Ytejhkadalahcjaa.XBetter Go.Proofs.Ytejhkadalahcjaa.XMap Go.Proofs.Ytejhkadalahcjaa.PA
set_option linter.unusedVariables false
set_option linter.unusedSimpArgs false
def kidGo (l : List Slot) (last k b : Nat) : Nat :=
  if h : k ≤ last ∧ k < l.length then kidGo l last (k + 1) (if bet (at_ l k) (at_ l b) = true then k else b) else b
termination_by last + 1 - k
decreasing_by omega
/-- The best one of a place and those below it. -/
def kid (l : List Slot) (i : Nat) : Nat := kidGo l (2 * i + 2) (2 * i + 1) i
theorem kidGo_in (l : List Slot) (last k b : Nat) (P : Nat → Prop) (hb : P b) (hk : ∀ j, k ≤ j → j ≤ last → j < l.length → P j) : P (kidGo l last k b) := by
  unfold kidGo
  split
  · rename_i h
    refine kidGo_in l last (k + 1) _ P ?_ (fun j h1 h2 h3 => hk j (by omega) h2 h3)
    split
    · exact hk k (Nat.le_refl _) h.1 h.2
    · exact hb
  · exact hb
termination_by last + 1 - k
decreasing_by omega
theorem kid_in {l : List Slot} {i : Nat} (hi : i < l.length) : kid l i = i ∨ (i < kid l i ∧ kid l i < l.length) :=
  kidGo_in l _ _ _ (fun j => j = i ∨ (i < j ∧ j < l.length)) (.inl rfl) (fun j h1 _ h3 => .inr ⟨by omega, h3⟩)
theorem kid_le (l : List Slot) (i : Nat) : kid l i ≤ 2 * i + 2 := kidGo_in l _ _ _ (fun j => j ≤ 2 * i + 2) (by omega) (fun j _ h2 _ => h2)
/-- A slot sinks. -/
def downL (l : List Slot) (i : Nat) : List Slot :=
  if h : i < kid l i ∧ kid l i < l.length then downL (swapL l i (kid l i)) (kid l i) else l
termination_by l.length - i
decreasing_by rw [swapL_length]; omega
def Outer (w : World) (base a b : Nat) (v : Value) (l : List Slot) (i : Nat) (x : Value) (wr : World) : Prop :=
  ∃ (m : List Slot) (j : Nat), x = .int .i64 j ∧ j < m.length ∧ m.length = l.length ∧ HA wr base a b v m ∧ Keep3 w wr a b v ∧ downL m j = downL l i
def Inner (w : World) (base a b : Nat) (v : Value) (m : List Slot) (j : Nat) (x y : Value) (wr : World) : Prop :=
  ∃ (p q : Nat), x = .int .i64 p ∧ y = .int .i64 q ∧ p < m.length ∧ q ≤ 2 * j + 3 ∧ 2 * j + 1 ≤ q ∧ (p = j ∨ j < p) ∧ HA wr base a b v m ∧ Keep3 w wr a b v ∧ kidGo m (2 * j + 2) q p = kid m j
set_option maxRecDepth 100000 in
set_option maxHeartbeats 2000000 in
theorem down_calls {w : World} {base a b : Nat} {v : Value} {l : List Slot} (h : HA w base a b v l) (i : Nat) (hi : i < l.length) :
    Calls Try.prog 29 #[.pointer (some ⟨a, 0, none⟩), .int .i64 i] w fun e w' => e = .returned (.tuple #[]) ∧ HA w' base a b v (downL l i) ∧ Keep3 w w' a b v := by
  have hll := h.fine.len
  go_enter Try.func29, Try.ntmps29
  go_wp2
  go_loopw [1] (fun x wr => Outer w base a b v l i x wr) (fun x _ => l.length - (intOf x).toNat)
  case atStart => exact ⟨l, i, rfl, hi, rfl, h, Keep3.refl _ _ _ _, rfl⟩
  case round =>
    obtain ⟨m, j, rfl, hj, hml, hm, hk, hu⟩ := hrel
    clear h hi
    have HU := Aside0.mk hu
    have HL := Aside0.mk hml
    clear hu hml
    obtain ⟨wo, rfl⟩ : ∃ wo : World, wo = wr := ⟨_, rfl⟩
    have hj9 : (j : Int) < 4096 := by have := hm.fine.len; omega
    go_wp2
    go_loopw [4, 5] (fun x y wr => Inner w base a b v m j x y wr) (fun _ y _ => 2 * j + 4 - (intOf y).toNat)
    case atStart => exact ⟨j, 2 * j + 1, rfl, by go_num, hj, by omega, by omega, .inl rfl, hm, hk, rfl⟩
    case round =>
      obtain ⟨p, q, rfl, rfl, hp, hq1, hq2, hpj, hm, hk, hg⟩ := hrel
      have HG := Aside0.mk hg
      clear hg
      by_cases c : q ≤ 2 * j + 2 ∧ q < m.length
      · obtain ⟨c1, c2⟩ := c
        obtain ⟨g, cc, rfl, n1, n2, n3, n4, n5⟩ := hm.mem.form (by omega)
        have h0 := hm.mem.c0
        obtain ⟨p0, p1, p2, p3, _, _, _, _⟩ := hm.mem.slot q c2
        obtain ⟨q0, q1, q2, q3, _, _, _, _⟩ := hm.mem.slot p hp
        have e1 : (q : Int) ≤ 2 * (j : Int) + 2 := by omega
        have e2 : (q : Int) < (m.length : Int) := by omega
        have e3 : (p : Int) < (m.length : Int) := by omega
        have e4 : (0 : Int) ≤ (q : Int) := by omega
        have e5 : (0 : Int) ≤ (p : Int) := by omega
        have e6 : (q : Int) < 9000 := by omega
        go_wp2
        go_region_held3 (fun w' => w'.cell? ⟨a, 0, none⟩ = some (.slice (some ⟨g, 0, none⟩) m.length cc) ∧ (w'.cell? ⟨g, q * 4, none⟩ = some (.int .i64 (at_ m q).f0) ∧ w'.cell? ⟨g, q * 4 + 1, none⟩ = some (.int .i64 (at_ m q).f1.f0) ∧ w'.cell? ⟨g, q * 4 + 2, none⟩ = some (.int .i64 (at_ m q).f1.f1) ∧ w'.cell? ⟨g, q * 4 + 3, none⟩ = some (.int .i64 (at_ m q).f1.f2)) ∧ (w'.cell? ⟨g, p * 4, none⟩ = some (.int .i64 (at_ m p).f0) ∧ w'.cell? ⟨g, p * 4 + 1, none⟩ = some (.int .i64 (at_ m p).f1.f0) ∧ w'.cell? ⟨g, p * 4 + 2, none⟩ = some (.int .i64 (at_ m p).f1.f1) ∧ w'.cell? ⟨g, p * 4 + 3, none⟩ = some (.int .i64 (at_ m p).f1.f2))) (first | go_keep | (exact ⟨pw_cell_below hb h0, ⟨pw_cell_below hb p0, pw_cell_below hb p1, pw_cell_below hb p2, pw_cell_below hb p3⟩, pw_cell_below hb q0, pw_cell_below hb q1, pw_cell_below hb q2, pw_cell_below hb q3⟩)) (first | (go_at_call 16; refine (bet_calls (at_ m q) (at_ m p) _).mono ?_; rintro e w1 ⟨rfl, hb⟩))
        replace hk := hk.trans (Keep3.of_below (a := a) (b := b) (v := .slice (some ⟨g, 0, none⟩) m.length cc) ((below_drew1 (Below.refl _ _)).trans hb)) (.inl rfl)
        replace hm := hm.of_below ((below_drew1 (Below.refl _ _)).trans hb)
        clear hb h0 p0 p1 p2 p3 q0 q1 q2 q3
        go_wp2
        · have hbt : bet (at_ m q) (at_ m p) = true := by assumption
          go_roundw
          case rel =>
            refine ⟨q, q + 1, rfl, by go_num, c2, by omega, by omega, .inr (by omega), hm, hk, ?_⟩
            rw [← HG.out]
            conv => rhs; unfold kidGo
            rw [dif_pos ⟨c1, c2⟩, if_pos hbt]
          case measure =>
            simp [intOf]
            omega
        · have hbf : bet (at_ m q) (at_ m p) = false := by assumption
          go_roundw
          case rel =>
            refine ⟨p, q + 1, rfl, by go_num, hp, by omega, by omega, hpj, hm, hk, ?_⟩
            rw [← HG.out]
            conv => rhs; unfold kidGo
            rw [dif_pos ⟨c1, c2⟩, if_neg (by rw [hbf]; simp)]
          case measure =>
            simp [intOf]
            omega
      · have hkid : kid m j = p := by
          rw [← HG.out]
          unfold kidGo
          rw [dif_neg c]
        have HK := Aside0.mk hkid
        clear hkid HG
        have h0 := hm.mem.c0
        obtain ⟨g, cc, rfl, n1, n2, n3, n4, n5⟩ := hm.mem.form (by omega)
        have e3 : (p : Int) < (m.length : Int) := by omega
        have e4 : (0 : Int) ≤ (q : Int) := by omega
        have e5 : (0 : Int) ≤ (p : Int) := by omega
        have e6 : (q : Int) < 9000 := by omega
        have E : ((q : Int) ≤ 2 * (j : Int) + 2 ∧ (m.length : Int) ≤ (q : Int)) ∨ 2 * (j : Int) + 2 < (q : Int) := by omega
        clear c
        rcases hpj with hpj | hpj
        · subst hpj
          have hdn : downL l i = m := by
            rw [← HU.out]
            unfold downL
            rw [dif_neg (fun x => by rw [HK.out] at x; omega)]
          have HD := Aside0.mk hdn
          clear hdn
          rcases E with ⟨E1, E2⟩ | E1
          all_goals
            go_wp2
            exact bodyPost_ret (v := .tuple #[]) (by simp [results, Try.results29, go_sem]) rfl (by rw [HD.out]; exact ⟨rfl, hm, hk⟩)
        · have hdn : downL l i = downL (swapL m j p) p := by
            rw [← HU.out]
            conv => lhs; unfold downL
            rw [HK.out, dif_pos ⟨hpj, hp⟩]
          have HD := Aside0.mk hdn
          clear hdn
          have t1 : ((p : Int) == (j : Int)) = false := by simp; omega
          have t2 : (p == j) = false := by simp; omega
          rcases E with ⟨E1, E2⟩ | E1
          all_goals
            go_wp2_with (first | (go_at_call 33; refine (hm.swap_calls (i := j) (k := p) hj hp (by omega)).mono ?_; rintro e w2 ⟨rfl, hm2, hk2⟩))
            go_roundw
            case rel =>
              refine ⟨swapL m j p, p, rfl, by rw [swapL_length]; exact hp, by rw [swapL_length]; exact HL.out, by rw [show m.length = (swapL m j p).length from (swapL_length _ _ _).symm] at hm2 ⊢; exact hm2, hk.trans hk2 (.inl rfl), HD.out.symm⟩
            case measure =>
              have := HL.out
              simp [intOf]
              omega
end Go.Proofs.Ytejhkadalahcjaa.XHeap
