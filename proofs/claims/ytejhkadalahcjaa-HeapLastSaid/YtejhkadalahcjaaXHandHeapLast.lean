/- law10's HeapLast, walked: who is on top hangs on the last rank of each id alone. -/
import Derived.Test.YtejhkadalahcjaaXLast10
import Derived.Test.YtejhkadalahcjaaXEq10
import Derived.Test.YtejhkadalahcjaaXLaw10c
namespace Go.Proofs.Ytejhkadalahcjaa.XHand
open Go.RowKit Go.Proofs.YtejhkadalahcjaaW.PrintWords Go.Proofs.YtejhkadalahcjaaW.PrintLast Go.Proofs.YtejhkadalahcjaaW.PrintMore Go.Proofs.Ytejhkadalahcjaa.XBetter Go.Proofs.Ytejhkadalahcjaa.XMap Go.Proofs.Ytejhkadalahcjaa.PA Go.Proofs.Ytejhkadalahcjaa.XHeap
set_option linter.unusedVariables false
set_option linter.unusedSimpArgs false
attribute [local go_sem high] eqSl
noncomputable def elB : El Try.prog 4 Bool := elBool Try.underlying4 (fun w => by kernel_rfl)
def metF (r : List OpT) : Int → Option Bool := fun x => if (lastOf r x).isSome = true then some true else none
theorem metM {ops : List OpT} {p : Nat} {o : OpT} (hids : ops.drop p = o :: ops.drop (p + 1)) (ho : True) (x : Int) (hx : i64ok x) : upd (metF (ops.drop (p + 1))) o.f1 (some true) x = metF (ops.drop p) x := by
  rw [hids]
  unfold upd metF
  have e2 : lastOf (o :: ops.drop (p + 1)) x = (lastOf (ops.drop (p + 1)) x).or (if o.f1 = x then some (opVal o) else none) := rfl
  rw [e2]
  by_cases c : x = o.f1
  · subst c
    simp
  · have c' : ¬ o.f1 = x := fun e => c e.symm
    simp [c, c']
theorem _root_.Go.Proofs.Ytejhkadalahcjaa.XHeap.HA.ne_map {w : World} {base a b p : Nat} {v : Value} {l : List Slot} {es : Array MapEntry} {ck : Nat} (h : HA w base a b v l) (hp : w.heap[p]? = some (Obj.map es ck)) : p ≠ a ∧ some p ≠ v.ownBlock := by
  refine ⟨fun e => ?_, fun e => ?_⟩
  · subst e; rw [h.mem.hd] at hp; simp at hp
  · obtain ⟨cs, hc⟩ := Kd.R_typed h.mem.sl p e.symm
    rw [hc] at hp; simp at hp
theorem _root_.Go.RowKit.Below.turned {B b : Nat} {w0 w w' : World} (h : Below B w0 w) (hT : w.mapTurned w' b) (hb : B ≤ b) : Below B w0 w' := by
  obtain ⟨h1, h2, h3⟩ := turned_world hT
  exact ⟨h1.trans h.os, h2.trans h.tape, h3.trans h.output, by rw [turned_size hT]; exact h.size, fun k hk => (turned_heap hT (by omega)).trans (h.block k hk)⟩
def LastR (w1 : World) (base a b bm : Nat) (ops : List OpT) (x : Value) (wr : World) : Prop :=
  ∃ (j : Nat) (v : Value) (n : Nat), x = .int .i64 ((j : Int) - 1) ∧ j ≤ ops.length ∧ HA wr base a b v (lastPut (ops.drop j)) ∧ MapF elB 3 wr bm n (metF (ops.drop j)) ∧ n + j ≤ ops.length ∧ Below base w1 wr ∧ base ≤ wr.heap.size ∧ bm ≠ b
set_option maxRecDepth 100000 in
set_option maxHeartbeats 8000000 in
theorem heapLast_walk (A0 : Option Addr) (c0 : Nat) (ops : List OpT) (w : World) (hC : Kd.C k43 w A0 ops.length ops) (hc0 : ops.length ≤ c0) (hmax : ops.length ≤ maxLen) (hok : ∀ x ∈ ops, Ok43 x) :
    Calls Try.prog 8 #[.slice A0 ops.length c0] w fun e w' => e = .returned (.bool true) ∧ Below w.heap.size w w' := by
  have hoks := ops_ok hok
  clear hok hc0
  unfold maxLen at hmax
  have hmx : (ops.length : Int) ≤ 9223372036854775807 := by omega
  clear hmax
  by_cases hl : 100 < ops.length
  · have hl' : (100 : Int) < (ops.length : Int) := by omega
    go_enter Try.func8, Try.ntmps8
    go_wp2_with fail
    refine (live_calls w).mono ?_
    rintro e w1 ⟨rfl, b1⟩
    go_wp2
    go_ret
    exact ⟨rfl, b1⟩
  · have hl' : (ops.length : Int) ≤ 100 := by omega
    have hlen : ops.length ≤ 100 := by omega
    clear hl hmx
    have hsame := last_same hoks hlen
    have hmm := @run_makeMap Try.prog
    go_enter Try.func8, Try.ntmps8
    go_wp2_with fail
    refine (some_calls hC hoks hlen).mono ?_
    rintro e w1 ⟨a, b, v, rfl, h1, hb1⟩
    have hz1 := hb1.size
    go_wp2_with fail
    refine (new_calls w1).mono ?_
    rintro e w2 ⟨a2, b2, rfl, h2, hb2⟩
    have hz2 := hb2.size
    have hbase : w.heap.size ≤ w1.heap.size := hz1
    go_upto_region 8 with (fail)
    have b3 := below_alloc (Below.refl w2.heap.size w2) (Obj.map #[] 0)
    have hM := MapF.made (k := 3) elB w2
    have hbm2 := h2.mem.mp.lt
    generalize w2.alloc (Obj.map #[] 0) = w3 at b3 hM ⊢
    have h3 := h2.of_below b3
    have hb3 : Below w1.heap.size w1 w3 := hb2.trans (b3.mono hz2)
    have hbm : w2.heap.size ≠ b2 := by omega
    have hbz : w1.heap.size ≤ w2.heap.size := hz2
    clear h2 hb2 b3 hz2 hbm2
    generalize w2.heap.size = bm at hM hbm hbz ⊢
    generalize hbs : w1.heap.size = base at h3 hb3 hbase hbz
    have HBS := Aside0.mk hbs
    clear hbs hmm
    go_wp2_with fail
    go_loopw [6] (fun x wr => LastR w1 base a2 b2 bm ops x wr) (fun x _ => (intOf x + 1).toNat)
    case atStart =>
      refine ⟨ops.length, .slice none 0 0, 0, rfl, Nat.le_refl _, ?_, hM.ext (fun x _ => ?_), by omega, hb3, Nat.le_trans hbz (Nat.le_of_lt (hM.lt)), hbm⟩
      · rw [List.drop_length]; exact h3
      · rw [List.drop_length]; rfl
    case round =>
      obtain ⟨j, v2, n, rfl, hj, hm, hM2, hn, hb, hB, hbm⟩ := hrel
      clear h3 hb3 hM
      have HS := Aside0.mk hsame
      clear hsame
      rcases Nat.eq_zero_or_pos j with hz | hp
      · subst hz
        rw [List.drop_zero] at hm
        rw [show ((0 : Nat) : Int) - 1 = -1 from rfl]
        have h1' : HA w1 w.heap.size a b v (lastPut ops) ∨ True := .inr trivial
        have hbb : Below w1.heap.size w1 wr := by rw [HBS.out]; exact hb
        have ha := h1.of_below hbb
        have hbw : Below w.heap.size w wr := hb1.trans (hbb.mono hz1)
        have hzr : w.heap.size ≤ wr.heap.size := Nat.le_trans hz1 hbb.size
        have t1 := top_calls ha
        rw [HS.out.1, HS.out.2] at t1
        have t2 := fun w' (k : Below wr.heap.size wr w') => top_calls (hm.of_below k)
        have l1 := fun w' (k : Below wr.heap.size wr w') => len_calls (ha.of_below k)
        have l2 := fun w' (k : Below wr.heap.size wr w') => len_calls (hm.of_below k)
        rw [HS.out.2] at l1
        clear ha hm h1 h1' hM2 hb hB hbm hb1 hbb HBS
        generalize lastPut ops = m at t1 t2 l1 l2
        clear HS
        generalize decide (0 < m.length) = q at t1 t2
        generalize at_ m 0 = t at t1 t2
        go_wp2_with fail
        refine t1.mono ?_
        rintro e w4 ⟨rfl, b4⟩
        clear t1
        go_upto_region 15 with (fail)
        have b5 := below_alloc b4 (Obj.cells #[.int .i64 t.f0, .int .i64 t.f1.f0, .int .i64 t.f1.f1, .int .i64 t.f1.f2] 33)
        have T7 := heap_alloc_new w4 (Obj.cells #[.int .i64 t.f0, .int .i64 t.f1.f0, .int .i64 t.f1.f1, .int .i64 t.f1.f2] 33)
        generalize w4.alloc (Obj.cells #[.int .i64 t.f0, .int .i64 t.f1.f0, .int .i64 t.f1.f1, .int .i64 t.f1.f2] 33) = w5 at b5 T7 ⊢
        generalize w4.heap.size = p7 at T7 ⊢
        clear b4
        go_wp2_with fail
        refine (t2 w5 b5).mono ?_
        rintro e w6 ⟨rfl, b6⟩
        clear t2
        go_upto_region 16 with (fail)
        have b7 := below_alloc b6 (Obj.cells #[.int .i64 t.f0, .int .i64 t.f1.f0, .int .i64 t.f1.f1, .int .i64 t.f1.f2] 33)
        have T9 := heap_alloc_new w6 (Obj.cells #[.int .i64 t.f0, .int .i64 t.f1.f0, .int .i64 t.f1.f1, .int .i64 t.f1.f2] 33)
        generalize w6.alloc (Obj.cells #[.int .i64 t.f0, .int .i64 t.f1.f0, .int .i64 t.f1.f1, .int .i64 t.f1.f2] 33) = w7 at b7 T9 ⊢
        generalize w6.heap.size = p9 at T9 ⊢
        replace T7 := blk_below T7 b7
        have b8 := below_step b5 b7
        clear b5 b6 b7
        have s0 : w7.cell? ⟨p7, 0, none⟩ = some (.int .i64 t.f0) := (blk_cell T7 0).trans rfl
        have s1 : w7.cell? ⟨p7, 1, none⟩ = some (.int .i64 t.f1.f0) := (blk_cell T7 1).trans rfl
        have s2 : w7.cell? ⟨p7, 2, none⟩ = some (.int .i64 t.f1.f1) := (blk_cell T7 2).trans rfl
        have s3 : w7.cell? ⟨p7, 3, none⟩ = some (.int .i64 t.f1.f2) := (blk_cell T7 3).trans rfl
        have u0 : w7.cell? ⟨p9, 0, none⟩ = some (.int .i64 t.f0) := (blk_cell T9 0).trans rfl
        have u1 : w7.cell? ⟨p9, 1, none⟩ = some (.int .i64 t.f1.f0) := (blk_cell T9 1).trans rfl
        have u2 : w7.cell? ⟨p9, 2, none⟩ = some (.int .i64 t.f1.f1) := (blk_cell T9 2).trans rfl
        have u3 : w7.cell? ⟨p9, 3, none⟩ = some (.int .i64 t.f1.f2) := (blk_cell T9 3).trans rfl
        clear T7 T9
        go_wp2_with fail
        refine (l1 w7 b8).mono ?_
        rintro e w8 ⟨rfl, rfl⟩
        clear s0 s1 s2 s3 u0 u1 u2 u3
        go_wp2_with fail
        refine (l2 w8 b8).mono ?_
        rintro e w9 ⟨rfl, rfl⟩
        go_wp2_with fail
        refine (live_calls w9).mono ?_
        rintro e w10 ⟨rfl, b9⟩
        clear l1 l2
        go_wp2
        go_ret
        exact ⟨rfl, hbw.trans ((below_step b8 b9).mono hzr)⟩
      · obtain ⟨p, rfl⟩ : ∃ p, j = p + 1 := ⟨j - 1, by omega⟩
        rw [show ((p + 1 : Nat) : Int) - 1 = (p : Int) by omega]
        have hpl : p < ops.length := by omega
        have q0 : (0 : Int) ≤ (p : Int) := by omega
        have q1 : (p : Int) < (ops.length : Int) := by omega
        have q2 : (p : Int) < 101 := by omega
        obtain ⟨ad, rfl, c0, c1, c2, c3, c4⟩ := op_cells hC p hpl
        have hid := hoks p hpl
        have hids : ops.drop p = XHeap.opAt ops p :: ops.drop (p + 1) := by
          rw [List.drop_eq_getElem_cons hpl]
          unfold XHeap.opAt
          rw [List.getD_eq_getElem?_getD, List.getElem?_eq_getElem hpl]
          rfl
        have hdl : (lastPut (ops.drop (p + 1))).length < 4096 := by have := lastPut_length (ops.drop (p + 1)); rw [List.length_drop] at this; omega
        have HO : Aside0 True := ⟨trivial⟩
        generalize XHeap.opAt ops p = o at c0 c1 c2 c3 c4 hid hids
        have hbw : Below w.heap.size w wr := hb1.trans (hb.mono hbase)
        have hlk := hM2.look Try.underlying3 Try.underlying51 hid
        have t0 := pw_cell_below hbw c0
        have t1 := pw_cell_below hbw c1
        by_cases cm : (lastOf (ops.drop (p + 1)) o.f1).isSome = true
        · -- met already
          have hlp : lastPut (ops.drop p) = lastPut (ops.drop (p + 1)) := by
            rw [hids]
            show (if _ then _ else _) = _
            rw [if_neg (fun h => by have := h.1; revert cm this; cases lastOf (ops.drop (p + 1)) o.f1 <;> simp)]
          replace hlk : Sem.run Try.prog (Instr.lookup 51 (.map (some bm)) (.int .i64 o.f1) false) wr = .ok (.bool true) wr := by
            have : (metF (ops.drop (p + 1)) o.f1).getD elB.zero = true := by unfold metF; rw [if_pos cm]; rfl
            rw [this] at hlk
            exact hlk
          have HLP := Aside0.mk hlp
          clear hlp cm c2 c3 c4
          have hids := Aside0.mk hids
          go_upto_region 13 with (fail)
          clear hlk
          have hids := hids.out
          obtain ⟨es_, ck_, hmb_⟩ := hM2.block
          have hna := hm.ne_map hmb_
          have HI := Aside0.mk hids
          clear hids
          go_wp2_with (first | (at_mapUpdate; refine wp_put elB rfl _ _ _ rfl Try.underlying3 Try.underlying51 rfl hM2 o.f1 rfl hid true rfl trivial (by unfold maxLen; omega) ?_; intro w7 hM7 hT7))
          go_roundw
          case rel =>
            refine ⟨p, v2, _, rfl, by omega, ?_, hM7.ext ?_, ?_, ?_, ?_, ?_⟩
            · rw [HLP.out]
              exact hm.far hna.1 hbm hna.2 (fun i hi => turned_heap hT7 hi)
            · exact metM HI.out HO.out
            · split <;> omega
            · exact hb.turned hT7 hbz
            · rw [turned_size hT7]; omega
            · exact hbm
          case measure => simp [intOf]
        · have cm' : lastOf (ops.drop (p + 1)) o.f1 = none := by revert cm; cases lastOf (ops.drop (p + 1)) o.f1 <;> simp
          replace hlk : Sem.run Try.prog (Instr.lookup 51 (.map (some bm)) (.int .i64 o.f1) false) wr = .ok (.bool false) wr := by
            have : (metF (ops.drop (p + 1)) o.f1).getD elB.zero = false := by unfold metF; rw [if_neg cm]; rfl
            rw [this] at hlk
            exact hlk
          by_cases hd : o.f0 = 1
          · have hlp : lastPut (ops.drop p) = lastPut (ops.drop (p + 1)) := by
              rw [hids]
              show (if _ then _ else _) = _
              rw [if_neg (fun h => h.2 hd)]
            have HLP := Aside0.mk hlp
            rw [hd] at t0
            clear hlp cm cm' c2 c3 c4 hd
            have HI := Aside0.mk hids
            clear hids
            go_upto_region 13 with (fail)
            clear hlk
            obtain ⟨es_, ck_, hmb_⟩ := hM2.block
            have hna := hm.ne_map hmb_
            go_wp2_with (first | (at_mapUpdate; refine wp_put elB rfl _ _ _ rfl Try.underlying3 Try.underlying51 rfl hM2 o.f1 rfl hid true rfl trivial (by unfold maxLen; omega) ?_; intro w7 hM7 hT7))
            go_roundw
            case rel =>
              refine ⟨p, v2, _, rfl, by omega, ?_, hM7.ext ?_, ?_, ?_, ?_, ?_⟩
              · rw [HLP.out]
                exact hm.far hna.1 hbm hna.2 (fun i hi => turned_heap hT7 hi)
              · exact metM HI.out HO.out
              · split <;> omega
              · exact hb.turned hT7 hbz
              · rw [turned_size hT7]; omega
              · exact hbm
            case measure => simp [intOf]
          · have hlp : lastPut (ops.drop p) = putL (lastPut (ops.drop (p + 1))) (slotOf o) := by
              rw [hids]
              show (if _ then _ else _) = _
              rw [if_pos ⟨by rw [cm']; rfl, hd⟩]
            have HLP := Aside0.mk hlp
            have u0 : (o.f0 != 1) = true := by simpa using hd
            have u1 : (o.f0 == 1) = false := by simpa using hd
            have t2 := pw_cell_below hbw c2
            have t3 := pw_cell_below hbw c3
            have t4 := pw_cell_below hbw c4
            clear hlp cm cm' hd
            have HI := Aside0.mk hids
            clear hids
            go_upto_region 12 with (fail)
            clear hlk
            go_region_held3 (fun w' => w'.cell? ⟨(ad.add (p * 5)).block, (ad.add (p * 5)).off + 1, none⟩ = some (.int .i64 o.f1) ∧ w'.cell? ⟨(ad.add (p * 5)).block, (ad.add (p * 5)).off + 2, none⟩ = some (.int .i64 o.f2.f0) ∧ w'.cell? ⟨(ad.add (p * 5)).block, (ad.add (p * 5)).off + 3, none⟩ = some (.int .i64 o.f2.f1) ∧ w'.cell? ⟨(ad.add (p * 5)).block, (ad.add (p * 5)).off + 4, none⟩ = some (.int .i64 o.f2.f2)) (first | go_keep | (exact ⟨pw_cell_below hbw6 c1, pw_cell_below hbw6 c2, pw_cell_below hbw6 c3, pw_cell_below hbw6 c4⟩)) (first | (go_at_call 22; refine (put_calls (hm.of_below (below_drew (Below.refl _ _))) (slotOf o) hid hdl).mono ?_; rintro e w6 ⟨rfl, v6, h6, k6, g6⟩; have hb6 := (hm.of_below (below_drew (Below.refl _ _))).step k6 (below_drew1 hb) hB; have hbw6 : Below w.heap.size w w6 := hb1.trans (hb6.mono hbase)))
            obtain ⟨es1, ck1, hmb1⟩ := hM2.block
            have hna1 := hm.ne_map hmb1
            have hM6 := hM2.kept (k6.blk bm hM2.lt hna1.1 hbm hna1.2)
            have hB6 : base ≤ w6.heap.size := Nat.le_trans hB k6.size
            have t1 := pw_cell_below hbw6 c1
            clear hmb1 hna1 t0 t2 t3 t4 k6 g6 hbw hm hM2 hb hB c2 c3 c4
            obtain ⟨es_, ck_, hmb_⟩ := hM6.block
            have hna := h6.ne_map hmb_
            go_wp2_with (first | (at_mapUpdate; refine wp_put elB rfl _ _ _ rfl Try.underlying3 Try.underlying51 rfl hM6 o.f1 rfl hid true rfl trivial (by unfold maxLen; omega) ?_; intro w7 hM7 hT7))
            go_roundw
            case rel =>
              refine ⟨p, v6, _, rfl, by omega, ?_, hM7.ext ?_, ?_, ?_, ?_, ?_⟩
              · rw [HLP.out]
                exact h6.far hna.1 hbm hna.2 (fun i hi => turned_heap hT7 hi)
              · exact metM HI.out HO.out
              · split <;> omega
              · exact hb6.turned hT7 hbz
              · rw [turned_size hT7]; omega
              · exact hbm
            case measure => simp [intOf]
end Go.Proofs.Ytejhkadalahcjaa.XHand
