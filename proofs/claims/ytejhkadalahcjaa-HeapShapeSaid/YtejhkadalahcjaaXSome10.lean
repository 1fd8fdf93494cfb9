/- law10: some, a heap on which was called. -/
import Derived.Test.YtejhkadalahcjaaXHeapPure
import Derived.Test.YtejhkadalahcjaaXLive10
namespace Go.Proofs.Ytejhkadalahcjaa.XHeap
open Go.RowKit Go.Proofs.YtejhkadalahcjaaW.PrintWords Go.Proofs.YtejhkadalahcjaaW.PrintLast Go.Proofs.YtejhkadalahcjaaW.PrintMore Go.Proofs.Ytejhkadalahcjaa.XBetter Go.Proofs.Ytejhkadalahcjaa.XMap Go.Proofs.Ytejhkadalahcjaa.PA
set_option linter.unusedVariables false
set_option linter.unusedSimpArgs false
abbrev OpT := S43
def slotOf (o : OpT) : Slot := ⟨o.f1, ⟨o.f2.f0, o.f2.f1, o.f2.f2⟩⟩
def opAt (l : List OpT) (k : Nat) : OpT := l.getD k z43
def opL (l : List Slot) (o : OpT) : List Slot := if o.f0 = 1 then dropL l o.f1 else putL l (slotOf o)
def someTo (ops : List OpT) (k : Nat) : List Slot := (ops.take k).foldl opL []
theorem setUp_length (l : List Slot) (i : Nat) : (setUp l i).length = l.length := by unfold setUp; rw [downL_length, upL_length]
theorem putL_length (l : List Slot) (s : Slot) : (putL l s).length ≤ l.length + 1 := by
  unfold putL putAt
  split
  · rw [setUp_length, List.length_set]; omega
  · rw [setUp_length]; simp
theorem dropL_length (l : List Slot) (id : Int) : (dropL l id).length ≤ l.length := by
  unfold dropL dropAt
  split
  · rename_i i hi
    obtain ⟨j, rfl, hj, _⟩ := ix_some hi
    have hm : l.length = (l.length - 1) + 1 := by omega
    split
    · rw [setUp_length, cutL_length _ _ _ hm]; omega
    · rw [cutL_length _ _ _ hm]; omega
  · exact Nat.le_refl _
theorem opL_length (l : List Slot) (o : OpT) : (opL l o).length ≤ l.length + 1 := by
  unfold opL
  split
  · have := dropL_length l o.f1; omega
  · exact putL_length l _
theorem someTo_succ (ops : List OpT) (k : Nat) (hk : k < ops.length) : someTo ops (k + 1) = opL (someTo ops k) (opAt ops k) := by
  unfold someTo opAt
  rw [List.take_succ_eq_append_getElem hk, List.foldl_append, List.getD_eq_getElem?_getD, List.getElem?_eq_getElem hk]
  rfl
theorem someTo_length (ops : List OpT) (k : Nat) (hk : k ≤ ops.length) : (someTo ops k).length ≤ k := by
  induction k with
  | zero => simp [someTo]
  | succ k ih =>
    rw [someTo_succ ops k (by omega)]
    have := opL_length (someTo ops k) (opAt ops k)
    have := ih (by omega)
    omega
/-- The cells of a call that came in. -/
theorem op_cells {w : World} {A : Option Addr} {ops : List OpT} (hC : Kd.C k43 w A ops.length ops) (k : Nat) (hk : k < ops.length) :
    ∃ ad, A = some ad ∧ w.cell? (ad.add (k * 5)) = some (.int .i64 (opAt ops k).f0) ∧ w.cell? ⟨(ad.add (k * 5)).block, (ad.add (k * 5)).off + 1, none⟩ = some (.int .i64 (opAt ops k).f1) ∧ w.cell? ⟨(ad.add (k * 5)).block, (ad.add (k * 5)).off + 2, none⟩ = some (.int .i64 (opAt ops k).f2.f0) ∧ w.cell? ⟨(ad.add (k * 5)).block, (ad.add (k * 5)).off + 3, none⟩ = some (.int .i64 (opAt ops k).f2.f1) ∧ w.cell? ⟨(ad.add (k * 5)).block, (ad.add (k * 5)).off + 4, none⟩ = some (.int .i64 (opAt ops k).f2.f2) := by
  have := at_T43 hC (k : Int) (by omega) (by omega)
  rw [Int.toNat_natCast] at this
  unfold rd_T43 at this
  rw [Int.toNat_natCast] at this
  exact this
def SomeR (w : World) (base a b : Nat) (ops : List OpT) (x : Value) (wr : World) : Prop :=
  ∃ k : Nat, x = .int .i64 k ∧ k ≤ ops.length ∧ (∃ v, HA wr base a b v (someTo ops k)) ∧ Below base w wr ∧ base ≤ wr.heap.size
set_option maxRecDepth 100000 in
set_option maxHeartbeats 2000000 in
theorem some_calls {w : World} {A0 : Option Addr} {c0 : Nat} {ops : List OpT} (hC : Kd.C k43 w A0 ops.length ops) (hok : ∀ k, k < ops.length → i64ok (opAt ops k).f1) (hlen : ops.length ≤ 100) :
    Calls Try.prog 18 #[.slice A0 ops.length c0] w fun e w' => ∃ a b v, e = .returned (.pointer (some ⟨a, 0, none⟩)) ∧ HA w' w.heap.size a b v (someTo ops ops.length) ∧ Below w.heap.size w w' := by
  go_enter Try.func18, Try.ntmps18
  go_wp2_with fail
  refine (new_calls w).mono ?_
  rintro e w1 ⟨a, b, rfl, h1, hb1⟩
  go_wp2_with fail
  go_loopw [4] (fun x wr => SomeR w w.heap.size a b ops x wr) (fun x _ => ops.length - (intOf x).toNat)
  case atStart => exact ⟨0, rfl, Nat.zero_le _, ⟨_, h1⟩, hb1, hb1.size⟩
  case round =>
    obtain ⟨k, rfl, hk, ⟨v, hm⟩, hb, hB⟩ := hrel
    clear h1 hb1
    have b0 : (0 : Int) ≤ (k : Int) := by omega
    have b1 : (k : Int) < 101 := by omega
    by_cases hlt : k < ops.length
    · have b2 : (k : Int) < (ops.length : Int) := by omega
      obtain ⟨ad, rfl, c0, c1, c2, c3, c4⟩ := op_cells hC k hlt
      have hsl := someTo_length ops k hk
      have hid := hok k hlt
      have HS := Aside0.mk (someTo_succ ops k hlt)
      have t0 := pw_cell_below hb c0
      have t1 := pw_cell_below hb c1
      have t2 := pw_cell_below hb c2
      have t3 := pw_cell_below hb c3
      have t4 := pw_cell_below hb c4
      generalize opAt ops k = o at *
      by_cases hd : o.f0 = 1
      · have HL : Aside0 (someTo ops (k + 1) = dropL (someTo ops k) o.f1) := ⟨by rw [HS.out]; unfold opL; rw [if_pos hd]⟩
        rw [hd] at t0
        clear hd HS c0 c1 c2 c3 c4 t2 t3 t4
        go_wp2_with fail
        refine (drop_calls hm o.f1 hid).mono ?_
        rintro e w2 ⟨rfl, v2, h2, k2, _⟩
        have hb2 := hm.step k2 hb hB
        clear t0 t1
        go_wp2
        go_roundw
        case rel =>
          refine ⟨k + 1, by go_num, by omega, ⟨v2, ?_⟩, hb2, Nat.le_trans hB k2.size⟩
          rw [HL.out]; exact h2
        case measure => simp [intOf]; omega
      · have HL : Aside0 (someTo ops (k + 1) = putL (someTo ops k) (slotOf o)) := ⟨by rw [HS.out]; unfold opL; rw [if_neg hd]⟩
        have u0 : (o.f0 == 1) = false := by simpa using hd
        clear hd HS c0
        go_wp2_with fail
        go_region_held3 (fun w' => w'.cell? ⟨(ad.add (k * 5)).block, (ad.add (k * 5)).off + 1, none⟩ = some (.int .i64 o.f1) ∧ w'.cell? ⟨(ad.add (k * 5)).block, (ad.add (k * 5)).off + 2, none⟩ = some (.int .i64 o.f2.f0) ∧ w'.cell? ⟨(ad.add (k * 5)).block, (ad.add (k * 5)).off + 3, none⟩ = some (.int .i64 o.f2.f1) ∧ w'.cell? ⟨(ad.add (k * 5)).block, (ad.add (k * 5)).off + 4, none⟩ = some (.int .i64 o.f2.f2)) (first | go_keep | (exact ⟨pw_cell_below hb2 c1, pw_cell_below hb2 c2, pw_cell_below hb2 c3, pw_cell_below hb2 c4⟩)) (first | (go_at_call 22; refine (put_calls (hm.of_below (below_drew (Below.refl _ _))) (slotOf o) hid (by omega)).mono ?_; rintro e w2 ⟨rfl, v2, h2, k2, _⟩; have hb2 := (hm.of_below (below_drew (Below.refl _ _))).step k2 (below_drew1 hb) hB))
        clear t0 t1 t2 t3 t4 c1 c2 c3 c4
        go_wp2
        go_roundw
        case rel =>
          refine ⟨k + 1, by go_num, by omega, ⟨v2, ?_⟩, hb2, Nat.le_trans hB k2.size⟩
          rw [HL.out]; exact h2
        case measure => simp [intOf]; omega
    · have b2 : (ops.length : Int) ≤ (k : Int) := by omega
      obtain rfl : k = ops.length := by omega
      go_wp2
      go_ret
      exact ⟨a, b, v, rfl, hm, hb⟩
end Go.Proofs.Ytejhkadalahcjaa.XHeap
