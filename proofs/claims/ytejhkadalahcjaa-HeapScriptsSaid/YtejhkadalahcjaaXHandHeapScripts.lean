/- law10's HeapScripts, walked: whatever is called of a new heap. -/
import Derived.Test.YtejhkadalahcjaaXGood10
import Derived.Test.YtejhkadalahcjaaXLaw10c
import Derived.Deep.RegionWith
import Derived.Deep.DeepCutAuto
import Derived.Deep.QuietTactic
import Derived.BigQuiet
namespace Go.Proofs.Ytejhkadalahcjaa.XHand
open Go.RowKit Go.Proofs.YtejhkadalahcjaaW.PrintWords Go.Proofs.YtejhkadalahcjaaW.PrintLast Go.Proofs.YtejhkadalahcjaaW.PrintMore Go.Proofs.Ytejhkadalahcjaa.XBetter Go.Proofs.Ytejhkadalahcjaa.XMap Go.Proofs.Ytejhkadalahcjaa.PA Go.Proofs.Ytejhkadalahcjaa.XHeap
set_option linter.unusedVariables false
set_option linter.unusedSimpArgs false
abbrev qload (T : TypeId) (o : Operand) : Op := Op.load T o
def ScrC (w : World) (base a b ar k : Nat) (wx : World) : Prop :=
  ∃ (l lr : List Slot), Both wx base a b ar l lr ∧ l.length ≤ k + 1 ∧ Below base w wx ∧ base ≤ wx.heap.size
def ScrR (w : World) (base a b ar : Nat) (ops : List OpT) (x : Value) (wr : World) : Prop :=
  ∃ (k : Nat) (l lr : List Slot), x = .int .i64 k ∧ k ≤ ops.length ∧ Both wr base a b ar l lr ∧ l.length ≤ k ∧ Below base w wr ∧ base ≤ wr.heap.size
set_option maxRecDepth 100000 in
set_option maxHeartbeats 8000000 in
theorem heapScripts_walk (A0 : Option Addr) (c0 : Nat) (ops : List OpT) (w : World) (hC : Kd.C k43 w A0 ops.length ops) (hc0 : ops.length ≤ c0) (hmax : ops.length ≤ maxLen) (hok : ∀ x ∈ ops, Ok43 x) :
    Calls Try.prog 3 #[.slice A0 ops.length c0] w fun e w' => e = .returned (.bool true) ∧ Below w.heap.size w w' := by
  have hoks := ops_ok hok
  clear hok hc0
  unfold maxLen at hmax
  have hmx : (ops.length : Int) ≤ 9223372036854775807 := by omega
  clear hmax
  go_enter Try.func3, Try.ntmps3
  go_wp2_with fail
  refine (new_calls w).mono ?_
  rintro e w1 ⟨a, b, rfl, h1, hb1⟩
  go_upto_region 3 with (fail)
  have b2 := below_alloc (Below.refl w1.heap.size w1) (Obj.cells #[.slice none 0 0] 28)
  have T2 := heap_alloc_new w1 (Obj.cells #[.slice none 0 0] 28)
  have hz2 := hb1.size
  have h2 := h1.of_below b2
  generalize w1.alloc (Obj.cells #[.slice none 0 0] 28) = w2 at b2 T2 h2 ⊢
  generalize w1.heap.size = ar at T2 hz2 b2 ⊢
  have hb2 : Below w.heap.size w w2 := hb1.trans (b2.mono hz2)
  have hr2 : RefAt w2 w.heap.size ar (.slice none 0 0) [] := ⟨T2, Kd.R_nil _ _ _ _ _, hz2⟩
  have hB2 : Both w2 w.heap.size a b ar [] [] := ⟨⟨_, h2⟩, ⟨_, hr2⟩, same_nil⟩
  clear h1 h2 hb1 b2 T2 hr2 hz2
  by_cases hl : 100 < ops.length
  · have hl' : (100 : Int) < (ops.length : Int) := by omega
    go_wp2_with fail
    refine (live_calls w2).mono ?_
    rintro e w3 ⟨rfl, b3⟩
    go_wp2
    go_ret
    exact ⟨rfl, below_step hb2 b3⟩
  · have hl' : (ops.length : Int) ≤ 100 := by omega
    have hlen : ops.length ≤ 100 := by omega
    clear hl hmx
    go_wp2_with fail
    go_loopw [5] (fun x wr => ScrR w w.heap.size a b ar ops x wr) (fun x _ => ops.length - (intOf x).toNat)
    case atStart => exact ⟨0, [], [], rfl, Nat.zero_le _, hB2, Nat.zero_le _, hb2, hb2.size⟩
    case round =>
      obtain ⟨k, l, lr, rfl, hk, hm, hlk, hb, hB⟩ := hrel
      clear hB2 hb2
      have b0 : (0 : Int) ≤ (k : Int) := by omega
      have b1 : (k : Int) < 101 := by omega
      by_cases hlt : k < ops.length
      · have b2 : (k : Int) < (ops.length : Int) := by omega
        obtain ⟨ad, rfl, c0, c1, c2, c3, c4⟩ := op_cells hC k hlt
        have hid := hoks k hlt
        have hdoes : ∀ w7 : World, Both w7 w.heap.size a b ar l lr → Below w.heap.size w w7 → w.heap.size ≤ w7.heap.size → Calls Try.prog 14 #[.pointer (some ⟨a, 0, none⟩), .pointer (some ⟨ar, 0, none⟩), .agg #[.int .i64 (XHeap.opAt ops k).f0, .int .i64 (XHeap.opAt ops k).f1, .int .i64 (XHeap.opAt ops k).f2.f0, .int .i64 (XHeap.opAt ops k).f2.f1, .int .i64 (XHeap.opAt ops k).f2.f2]] w7 (Does w.heap.size a b ar l.length w w7) := fun w7 h1 h2 h3 => does_calls h1 h2 h3 _ ⟨(XHeap.opAt ops k).f1, ⟨(XHeap.opAt ops k).f2.f0, (XHeap.opAt ops k).f2.f1, (XHeap.opAt ops k).f2.f2⟩⟩ hid (by omega)
        have hprev : 0 < k → _ := fun h => op_cells hC (k - 1) (by omega)
        generalize XHeap.opAt ops k = o at c0 c1 c2 c3 c4 hid hdoes
        obtain ⟨⟨v, hp⟩, ⟨vr, hr⟩, hsame⟩ := hm
        have ht := top_calls hp
        have htr : ∀ w1 : World, Below wr.heap.size wr w1 → _ := fun w1 hb1 => rtop_same (hr.of_below hb1) hsame
        generalize hq : decide (0 < l.length) = q at ht htr
        clear hq
        generalize at_ l 0 = t at ht htr
        go_wp2_with fail
        refine ht.mono ?_
        clear ht
        rintro e w3 ⟨rfl, b3⟩
        go_upto_region 11 with (fail)
        have b4 := below_alloc b3 (Obj.cells #[.int .i64 t.f0, .int .i64 t.f1.f0, .int .i64 t.f1.f1, .int .i64 t.f1.f2] 33)
        have T6 := heap_alloc_new w3 (Obj.cells #[.int .i64 t.f0, .int .i64 t.f1.f0, .int .i64 t.f1.f1, .int .i64 t.f1.f2] 33)
        generalize w3.alloc (Obj.cells #[.int .i64 t.f0, .int .i64 t.f1.f0, .int .i64 t.f1.f1, .int .i64 t.f1.f2] 33) = w4 at b4 T6 ⊢
        generalize w3.heap.size = p6 at T6 ⊢
        clear b3
        go_wp2_with fail
        refine (htr w4 b4).mono ?_
        clear htr
        rintro e w5 ⟨rfl, b5⟩
        go_upto_region 12 with (fail)
        have b6 := below_alloc b5 (Obj.cells #[.int .i64 t.f0, .int .i64 t.f1.f0, .int .i64 t.f1.f1, .int .i64 t.f1.f2] 37)
        have T8 := heap_alloc_new w5 (Obj.cells #[.int .i64 t.f0, .int .i64 t.f1.f0, .int .i64 t.f1.f1, .int .i64 t.f1.f2] 37)
        generalize w5.alloc (Obj.cells #[.int .i64 t.f0, .int .i64 t.f1.f0, .int .i64 t.f1.f1, .int .i64 t.f1.f2] 37) = w6 at b6 T8 ⊢
        generalize w5.heap.size = p8 at T8 ⊢
        replace T6 := blk_below T6 b6
        have b7 := below_step b4 b6
        have hm6 : Both w6 w.heap.size a b ar l lr := ⟨⟨_, hp.of_below b7⟩, ⟨_, hr.of_below b7⟩, hsame⟩
        have hb6 : Below w.heap.size w w6 := hb.trans (b7.mono hB)
        have hB6 : w.heap.size ≤ w6.heap.size := Nat.le_trans hB b7.size
        clear b4 b5 b6 b7 hp hr hb hB hsame
        go_cut [63] (fun s63 wx => s63 = .bool false ∧ ScrC w w.heap.size a b ar k wx)
        case first =>
          have s0 : w6.cell? ⟨p6, 0, none⟩ = some (.int .i64 t.f0) := (blk_cell T6 0).trans rfl
          have s1 : w6.cell? ⟨p6, 1, none⟩ = some (.int .i64 t.f1.f0) := (blk_cell T6 1).trans rfl
          have s2 : w6.cell? ⟨p6, 2, none⟩ = some (.int .i64 t.f1.f1) := (blk_cell T6 2).trans rfl
          have s3 : w6.cell? ⟨p6, 3, none⟩ = some (.int .i64 t.f1.f2) := (blk_cell T6 3).trans rfl
          have u0 : w6.cell? ⟨p8, 0, none⟩ = some (.int .i64 t.f0) := (blk_cell T8 0).trans rfl
          have u1 : w6.cell? ⟨p8, 1, none⟩ = some (.int .i64 t.f1.f0) := (blk_cell T8 1).trans rfl
          have u2 : w6.cell? ⟨p8, 2, none⟩ = some (.int .i64 t.f1.f1) := (blk_cell T8 2).trans rfl
          have u3 : w6.cell? ⟨p8, 3, none⟩ = some (.int .i64 t.f1.f2) := (blk_cell T8 3).trans rfl
          have y0 := pw_cell_below hb6 c0
          have y1 := pw_cell_below hb6 c1
          have y2 := pw_cell_below hb6 c2
          have y3 := pw_cell_below hb6 c3
          have y4 := pw_cell_below hb6 c4
          clear T6 T8 hprev hoks
          rw [show Op.load 33 (Operand.tmp 6) = qload 33 (Operand.tmp 6) from rfl, show Op.load 37 (Operand.tmp 8) = qload 37 (Operand.tmp 8) from rfl, show Op.load 26 (Operand.tmp 59) = qload 26 (Operand.tmp 59) from rfl]
          go_region_held3 (fun w' => w'.cell? (ad.add (k * 5)) = some (.int .i64 o.f0) ∧ w'.cell? ⟨(ad.add (k * 5)).block, (ad.add (k * 5)).off + 1, none⟩ = some (.int .i64 o.f1) ∧ w'.cell? ⟨(ad.add (k * 5)).block, (ad.add (k * 5)).off + 2, none⟩ = some (.int .i64 o.f2.f0) ∧ w'.cell? ⟨(ad.add (k * 5)).block, (ad.add (k * 5)).off + 3, none⟩ = some (.int .i64 o.f2.f1) ∧ w'.cell? ⟨(ad.add (k * 5)).block, (ad.add (k * 5)).off + 4, none⟩ = some (.int .i64 o.f2.f2)) (first | (exact ⟨y0, y1, y2, y3, y4⟩) | (exact ⟨x0, x1, x2, x3, x4⟩) | (exact ⟨z0, z1, z2, z3, z4⟩)) (first | (go_at_call 13; refine (same_calls t _).mono ?_; rintro e w7 ⟨rfl, b7⟩; have b7' := (below_drew1 (Below.refl w6.heap.size w6)).trans b7; have hm7 := hm6.of_below b7'; have hb7 : Below w.heap.size w w7 := hb6.trans (b7'.mono hB6); have hB7 : w.heap.size ≤ w7.heap.size := Nat.le_trans hB6 b7'.size; have x0 := pw_cell_below hb7 c0; have x1 := pw_cell_below hb7 c1; have x2 := pw_cell_below hb7 c2; have x3 := pw_cell_below hb7 c3; have x4 := pw_cell_below hb7 c4; clear b7 b7' s0 s1 s2 s3 u0 u1 u2 u3 y0 y1 y2 y3 y4) | (go_at_call 14; refine (hdoes _ hm7 hb7 hB7).mono ?_; rintro e w8 ⟨rfl, ⟨l', lr', ⟨⟨v8, p8'⟩, ⟨vr8, r8⟩, s8⟩, hl8⟩, hb8, hz8⟩; have hml8 : (lr'.map back).length = l'.length := (List.length_map _).trans s8.perm.length_eq.symm; obtain ⟨A8, c8, rfl⟩ := Kd.R_slice r8.sl; have hc8 := r8.c0; rw [hml8] at hc8; clear hml8 x0 x1 x2 x3 x4; have z0 := pw_cell_below hb8 c0; have z1 := pw_cell_below hb8 c1; have z2 := pw_cell_below hb8 c2; have z3 := pw_cell_below hb8 c3; have z4 := pw_cell_below hb8 c4) | (go_at_call 15; refine (len_calls p8').mono ?_; rintro e w9 ⟨rfl, rfl⟩))
          all_goals
            go_wp2_with fail
            go_meet
            exact ⟨by simp, _, _, ⟨⟨_, p8'⟩, ⟨_, r8⟩, s8⟩, by omega, hb8, Nat.le_trans hB7 hz8⟩
        case rest =>
          obtain ⟨rfl, l', lr', hm', hl', hb', hB'⟩ := hcut
          clear hdoes
          have z1 := pw_cell_below hb' c1
          have z2 := pw_cell_below hb' c2
          have z3 := pw_cell_below hb' c3
          have z4 := pw_cell_below hb' c4
          rcases Nat.eq_zero_or_pos k with hk0 | hk0
          · have d0 : decide (0 < k) = false := by simp; omega
            have HK := Aside0.mk hk0
            clear hk0 hprev
            go_upto_region 14 with (fail)
            go_quiet (fail)
            go_wp2
            go_roundw
            case rel =>
              have bd : Below wc.heap.size wc (wc.drewN nq) := by (repeat (first | apply pw_below_drewN)); exact Below.refl _ _
              exact ⟨k + 1, l', lr', by go_num, by omega, hm'.of_below bd, hl', hb'.trans (bd.mono hB'), hB'⟩
            case measure => simp [intOf]; omega
          · obtain ⟨ad2, he, p0, p1, p2, p3, p4⟩ := hprev hk0
            injection he with he
            subst he
            obtain ⟨j, hj⟩ : ∃ j, k = j + 1 := ⟨k - 1, by omega⟩
            have hj2 : k - 1 = j := by omega
            rw [hj2] at p0 p1 p2 p3 p4
            have d0 : decide (0 < k) = true := by simp; omega
            have hw : IntKind.i64.wrap ((k : Int) - 1) = (j : Int) := by rw [IntWalk.i64_in _ (by omega)]; omega
            have d1 : (0 : Int) ≤ (j : Int) := by omega
            have d2 : (j : Int) < (ops.length : Int) := by omega
            have HK := Aside0.mk hj
            clear hj hj2 hk0 hprev
            generalize XHeap.opAt ops j = o2 at p0 p1 p2 p3 p4
            replace p1 := pw_cell_below hb' p1
            replace p2 := pw_cell_below hb' p2
            replace p3 := pw_cell_below hb' p3
            replace p4 := pw_cell_below hb' p4
            have hk1 := fun w9 => bet_calls ⟨o.f1, ⟨o.f2.f0, o.f2.f1, o.f2.f2⟩⟩ ⟨o2.f1, ⟨o2.f2.f0, o2.f2.f1, o2.f2.f2⟩⟩ w9
            have hk2 := fun w9 => betR_calls ⟨o.f1, ⟨o.f2.f0, o.f2.f1, o.f2.f2⟩⟩ ⟨o2.f1, ⟨o2.f2.f0, o2.f2.f1, o2.f2.f2⟩⟩ w9
            generalize bet ⟨o.f1, ⟨o.f2.f0, o.f2.f1, o.f2.f2⟩⟩ ⟨o2.f1, ⟨o2.f2.f0, o2.f2.f1, o2.f2.f2⟩⟩ = qb at hk1 hk2
            have hqb : (qb != qb) = false := by simp
            go_upto_region 14 with (fail)
            go_region_held3 (fun w' => w'.cell? ⟨(ad.add (k * 5)).block, (ad.add (k * 5)).off + 1, none⟩ = some (.int .i64 o.f1) ∧ w'.cell? ⟨(ad.add (k * 5)).block, (ad.add (k * 5)).off + 2, none⟩ = some (.int .i64 o.f2.f0) ∧ w'.cell? ⟨(ad.add (k * 5)).block, (ad.add (k * 5)).off + 3, none⟩ = some (.int .i64 o.f2.f1) ∧ w'.cell? ⟨(ad.add (k * 5)).block, (ad.add (k * 5)).off + 4, none⟩ = some (.int .i64 o.f2.f2) ∧ w'.cell? ⟨(ad.add (j * 5)).block, (ad.add (j * 5)).off + 1, none⟩ = some (.int .i64 o2.f1) ∧ w'.cell? ⟨(ad.add (j * 5)).block, (ad.add (j * 5)).off + 2, none⟩ = some (.int .i64 o2.f2.f0) ∧ w'.cell? ⟨(ad.add (j * 5)).block, (ad.add (j * 5)).off + 3, none⟩ = some (.int .i64 o2.f2.f1) ∧ w'.cell? ⟨(ad.add (j * 5)).block, (ad.add (j * 5)).off + 4, none⟩ = some (.int .i64 o2.f2.f2)) (first | (exact ⟨z1, z2, z3, z4, p1, p2, p3, p4⟩) | (exact ⟨x1, x2, x3, x4, y1, y2, y3, y4⟩) | (exact ⟨v1, v2, v3, v4, u1, u2, u3, u4⟩)) (first | (go_at_call 16; refine (hk1 _).mono ?_; rintro e w9 ⟨rfl, b9⟩; have b9' := (below_drew1 (Below.refl wc.heap.size wc)).trans b9; have x1 := pw_cell_below b9' z1; have x2 := pw_cell_below b9' z2; have x3 := pw_cell_below b9' z3; have x4 := pw_cell_below b9' z4; have y1 := pw_cell_below b9' p1; have y2 := pw_cell_below b9' p2; have y3 := pw_cell_below b9' p3; have y4 := pw_cell_below b9' p4) | (go_at_call 17; refine (hk2 _).mono ?_; rintro e w10 ⟨rfl, b10⟩; have v1 := pw_cell_below b10 x1; have v2 := pw_cell_below b10 x2; have v3 := pw_cell_below b10 x3; have v4 := pw_cell_below b10 x4; have u1 := pw_cell_below b10 y1; have u2 := pw_cell_below b10 y2; have u3 := pw_cell_below b10 y3; have u4 := pw_cell_below b10 y4))
            clear x1 x2 x3 x4 y1 y2 y3 y4 v1 v2 v3 v4 u1 u2 u3 u4 z1 z2 z3 z4 p1 p2 p3 p4
            go_wp2
            go_roundw
            case rel =>
              have bd := below_step b9' b10
              exact ⟨k + 1, l', lr', by go_num, by omega, hm'.of_below bd, hl', hb'.trans (bd.mono hB'), Nat.le_trans hB' bd.size⟩
            case measure => simp [intOf]; omega
      · have b2 : (ops.length : Int) ≤ (k : Int) := by omega
        go_wp2_with fail
        refine (live_calls wr).mono ?_
        rintro e w4 ⟨rfl, b4⟩
        go_wp2
        go_ret
        exact ⟨rfl, hb.trans (b4.mono hB)⟩
end Go.Proofs.Ytejhkadalahcjaa.XHand
