/- law10's HeapShape, walked: all slots stand once each, each no better than the one above it; the first one is the top one. -/
import Derived.Test.YtejhkadalahcjaaXGood10
import Derived.Test.YtejhkadalahcjaaXEq10
import Derived.Test.YtejhkadalahcjaaXLaw10c
import Derived.Test.YtejhkadalahcjaaXQuiet
namespace Go.Proofs.Ytejhkadalahcjaa.XHand
open Go.RowKit Go.Proofs.YtejhkadalahcjaaW.PrintWords Go.Proofs.YtejhkadalahcjaaW.PrintLast Go.Proofs.YtejhkadalahcjaaW.PrintMore Go.Proofs.Ytejhkadalahcjaa.XBetter Go.Proofs.Ytejhkadalahcjaa.XMap Go.Proofs.Ytejhkadalahcjaa.PA Go.Proofs.Ytejhkadalahcjaa.XHeap Go.Proofs.Ytejhkadalahcjaa.XQuiet
set_option linter.unusedVariables false
set_option linter.unusedSimpArgs false
theorem eqRkT (x0 x1 x2 y0 y1 y2 : Int) (w : World) : (Op.equalIn 10000 31 (.agg #[.int .i64 x0, .int .i64 x1, .int .i64 x2]) (.agg #[.int .i64 y0, .int .i64 y1, .int .i64 y2])).run Try.prog w = .ok (x0 == y0 && (x1 == y1 && x2 == y2)) w := eqRk 9998 x0 x1 x2 y0 y1 y2 w
attribute [local go_sem high] eqSl eqRkT
noncomputable def elB : El Try.prog 4 Bool := elBool Try.underlying4 (fun w => by kernel_rfl)
theorem HA_ne_map {w : World} {base a b p : Nat} {v : Value} {l : List Slot} {es : Array MapEntry} {ck : Nat} (h : HA w base a b v l) (hp : w.heap[p]? = some (Obj.map es ck)) : p ≠ a ∧ some p ≠ v.ownBlock := by
  refine ⟨fun e => ?_, fun e => ?_⟩
  · subst e; rw [h.mem.hd] at hp; simp at hp
  · obtain ⟨cs, hc⟩ := Kd.R_typed h.mem.sl p e.symm
    rw [hc] at hp; simp at hp
theorem below_turned {B b : Nat} {w0 w w' : World} (h : Below B w0 w) (hT : w.mapTurned w' b) (hb : B ≤ b) : Below B w0 w' := by
  obtain ⟨h1, h2, h3⟩ := turned_world hT
  exact ⟨h1.trans h.os, h2.trans h.tape, h3.trans h.output, by rw [turned_size hT]; exact h.size, fun k hk => (turned_heap hT (by omega)).trans (h.block k hk)⟩
theorem R_slot {w : World} {base c : Nat} {A : Option Addr} {l : List Slot} (h : kSlot.R 33 w base (fun _ => True) (.slice A l.length c) l) (hl : 0 < l.length) :
    ∃ g, A = some ⟨g, 0, none⟩ ∧ ∀ i, i < l.length → w.cell? ⟨g, i * 4, none⟩ = some (.int .i64 (at_ l i).f0) ∧ w.cell? ⟨g, i * 4 + 1, none⟩ = some (.int .i64 (at_ l i).f1.f0) ∧ w.cell? ⟨g, i * 4 + 2, none⟩ = some (.int .i64 (at_ l i).f1.f1) ∧ w.cell? ⟨g, i * 4 + 3, none⟩ = some (.int .i64 (at_ l i).f1.f2) := by
  obtain ⟨g, c2, he, h1, h2, cur, h3⟩ := Kd.R_form h hl
  injection he with he
  subst he
  refine ⟨g, rfl, fun i hi => ?_⟩
  obtain ⟨cs, hl, hM, hc, hf⟩ := Kd.R_elem h z33 i (by omega) (by omega)
  rw [Int.toNat_natCast] at hM hc hf
  obtain rfl := k33_openM hM
  exact ⟨hc 0 _ rfl, hc 1 _ rfl, hc 2 _ rfl, hc 3 _ rfl⟩
def metS (l : List Slot) (k : Nat) : Int → Option Bool := fun x => if x ∈ (l.take k).map (·.f0) then some true else none
theorem take_at (l : List Slot) (k : Nat) (hk : k < l.length) : l.take (k + 1) = l.take k ++ [at_ l k] := by
  rw [List.take_succ_eq_append_getElem hk]
  unfold at_
  rw [List.getD_eq_getElem?_getD, List.getElem?_eq_getElem hk]
  rfl
theorem metS_new {l : List Slot} (h : Fine l) (k : Nat) (hk : k < l.length) : metS l k (at_ l k).f0 = none := by
  unfold metS
  rw [if_neg]
  intro hm
  have hnd : ((l.take (k + 1)).map (·.f0)).Nodup := by
    have := h.nd
    rw [← List.take_append_drop (k + 1) l, List.map_append, List.nodup_append] at this
    exact this.1
  rw [take_at l k hk, List.map_append, List.nodup_append] at hnd
  exact hnd.2.2 _ hm (at_ l k).f0 (by simp) rfl
theorem metS_succ (l : List Slot) (k : Nat) (hk : k < l.length) (x : Int) : upd (metS l k) (at_ l k).f0 (some true) x = metS l (k + 1) x := by
  unfold upd metS
  rw [take_at l k hk, List.map_append]
  by_cases c : x = (at_ l k).f0
  · simp [c]
  · simp [c]
def ShapeR (w : World) (base a b bm B1 c1 : Nat) (v : Value) (A1 : Option Addr) (l : List Slot) (x : Value) (wr : World) : Prop :=
  ∃ (k n : Nat), x = .int .i64 k ∧ k ≤ l.length ∧ HA wr base a b v l ∧ kSlot.R 33 wr B1 (fun _ => True) (.slice A1 l.length c1) l ∧ MapF elB 3 wr bm n (metS l k) ∧ n ≤ k ∧ Below base w wr ∧ base ≤ wr.heap.size
theorem shape_step {w wr w7 : World} {base a b bm B1 c1 k n n' : Nat} {v : Value} {A1 : Option Addr} {l : List Slot} (hk : k < l.length) (hm : HA wr base a b v l) (hR : kSlot.R 33 wr B1 (fun _ => True) (.slice A1 l.length c1) l) (hM : MapF elB 3 wr bm n (metS l k)) (hn : n ≤ k) (hb : Below base w wr) (hB : base ≤ wr.heap.size) (hbm : bm ≠ b) (hbz : base ≤ bm)
    (hM7 : MapF elB 3 w7 bm n' (upd (metS l k) (at_ l k).f0 (some true))) (hn' : n' ≤ n + 1) (hT : wr.mapTurned w7 bm) : ShapeR w base a b bm B1 c1 v A1 l (.int .i64 ((k : Int) + 1)) w7 := by
  obtain ⟨es, ck, hmb⟩ := hM.block
  have hna := HA_ne_map hm hmb
  refine ⟨k + 1, n', by go_num, by omega, hm.far hna.1 hbm hna.2 (fun i hi => turned_heap hT hi), ?_, hM7.ext (fun x _ => metS_succ l k hk x), by omega, below_turned hb hT hbz, by rw [turned_size hT]; exact hB⟩
  refine R_ownStep rfl hR (fun q hq => turned_heap hT (fun e => ?_))
  subst e
  obtain ⟨cs, hc⟩ := Kd.R_typed hR _ hq
  rw [hc] at hmb; simp at hmb
set_option maxRecDepth 100000 in
set_option maxHeartbeats 8000000 in
theorem heapShape_walk (A0 : Option Addr) (c0 : Nat) (ops : List OpT) (w : World) (hC : Kd.C k43 w A0 ops.length ops) (hc0 : ops.length ≤ c0) (hmax : ops.length ≤ maxLen) (hok : ∀ x ∈ ops, Ok43 x) :
    Calls Try.prog 4 #[.slice A0 ops.length c0] w fun e w' => e = .returned (.bool true) ∧ Below w.heap.size w w' := by
  have hoks := ops_ok hok
  clear hok hc0
  unfold maxLen at hmax
  have hmx : (ops.length : Int) ≤ 9223372036854775807 := by omega
  clear hmax
  by_cases hl : 100 < ops.length
  · have hl' : (100 : Int) < (ops.length : Int) := by omega
    go_enter Try.func4, Try.ntmps4
    go_wp2_with fail
    refine (live_calls w).mono ?_
    rintro e w1 ⟨rfl, b1⟩
    go_wp2
    go_ret
    exact ⟨rfl, b1⟩
  · have hl' : (ops.length : Int) ≤ 100 := by omega
    have hlen : ops.length ≤ 100 := by omega
    clear hl hmx
    have hmm := @run_makeMap Try.prog
    go_enter Try.func4, Try.ntmps4
    go_wp2_with fail
    refine (some_calls hC hoks hlen).mono ?_
    rintro e w1 ⟨a, b, v, rfl, h1, hb1⟩
    have hg := good_some hoks hlen ops.length (Nat.le_refl _)
    have hn := someTo_length ops ops.length (Nat.le_refl _)
    have hz1 := hb1.size
    generalize someTo ops ops.length = l at h1 hg hn
    replace hn : l.length ≤ 100 := Nat.le_trans hn hlen
    clear hC hoks hl' hlen
    go_wp2_with fail
    refine (slots_calls h1).mono ?_
    rintro e w2 ⟨v1, rfl, hR, hb2⟩
    go_upto_region 8 with (fail)
    have b3 := below_alloc (Below.refl w2.heap.size w2) (Obj.map #[] 0)
    have hM := MapF.made (k := 3) elB w2
    have hbm : w2.heap.size ≠ b := by have := (h1.of_below hb2).mem.mp.lt; omega
    have hbz : w.heap.size ≤ w2.heap.size := Nat.le_trans hz1 hb2.size
    generalize w2.alloc (Obj.map #[] 0) = w3 at b3 hM ⊢
    have h3 := (h1.of_below hb2).of_below b3
    replace hR := Kd.R_below hR b3
    have hb3 : Below w.heap.size w w3 := hb1.trans ((below_step hb2 b3).mono hz1)
    generalize w2.heap.size = bm at hM hbm hbz ⊢
    obtain ⟨A1, c1, rfl⟩ := Kd.R_slice hR
    clear h1 hb1 hb2 b3 hmm
    have hnl : (l.length : Int) ≤ 100 := by omega
    go_wp2_with fail
    go_loopw [6] (fun x wr => ShapeR w w.heap.size a b bm w1.heap.size c1 v A1 l x wr) (fun x _ => l.length - (intOf x).toNat)
    case atStart => exact ⟨0, 0, rfl, Nat.zero_le _, h3, hR, hM.ext (fun x _ => by simp [metS]), Nat.le_refl _, hb3, hb3.size⟩
    case round =>
      obtain ⟨k, n, rfl, hk, hm, hRk, hMk, hnk, hb, hB⟩ := hrel
      clear h3 hb3 hR hM
      have b0 : (0 : Int) ≤ (k : Int) := by omega
      have b1 : (k : Int) ≤ 100 := by omega
      by_cases hlt : k < l.length
      · have b2 : (k : Int) < (l.length : Int) := by omega
        obtain ⟨g, rfl, hcs⟩ := R_slot hRk (by omega)
        obtain ⟨p0, p1, p2, p3⟩ := hcs k hlt
        have hid := hg.fine.ok _ (at_mem hlt)
        have hget := get_some hm k hlt
        have hnew := metS_new hg.fine k hlt
        have hbet : 0 < k → bet (at_ l k) (at_ l ((k - 1) / 2)) = false := fun h => hg.ord k h hlt
        have HS := Aside0.mk (fun (w9 w7 : World) (n' : Nat) (h1 : HA w9 w.heap.size a b v l) (h2 : kSlot.R 33 w9 w1.heap.size (fun _ => True) (.slice (some ⟨g, 0, none⟩) l.length c1) l) (h3 : MapF elB 3 w9 bm n (metS l k)) h4 h5 h6 h7 h8 => shape_step (n' := n') (w7 := w7) (w := w) hlt h1 h2 h3 hnk h4 h5 hbm hbz h6 h7 h8)
        have hlook : ∀ w9 : World, MapF elB 3 w9 bm n (metS l k) → Sem.run Try.prog (Instr.lookup 51 (.map (some bm)) (.int .i64 (at_ l k).f0) false) w9 = .ok (.bool false) w9 := fun w9 h9 => by
          have := h9.look Try.underlying3 Try.underlying51 hid
          rw [hnew] at this
          exact this
        clear hnew
        have hq := fun (p : Nat) (hp : k = p + 1) => hcs (p / 2) (by omega)
        have hbq : ∀ p, k = p + 1 → bet (at_ l k) (at_ l (p / 2)) = false := fun p hp => by
          have := hbet (by omega)
          rw [show (k - 1) / 2 = p / 2 by omega] at this
          exact this
        clear hbet hcs
        generalize at_ l k = s at p0 p1 p2 p3 hid hget hlook HS hbq
        go_wp2_with fail
        refine hget.mono ?_
        clear hget
        rintro e w4 ⟨rfl, b4⟩
        go_upto_region 12 with (fail)
        have b5 := below_alloc b4 (Obj.cells #[.int .i64 s.f1.f0, .int .i64 s.f1.f1, .int .i64 s.f1.f2] 31)
        have T7 := heap_alloc_new w4 (Obj.cells #[.int .i64 s.f1.f0, .int .i64 s.f1.f1, .int .i64 s.f1.f2] 31)
        generalize w4.alloc (Obj.cells #[.int .i64 s.f1.f0, .int .i64 s.f1.f1, .int .i64 s.f1.f2] 31) = w5 at b5 T7 ⊢
        generalize w4.heap.size = p7 at T7 ⊢
        clear b4
        have r0 : ∀ u : Kin w5, u.at'.cell? ⟨p7, 0, none⟩ = some (.int .i64 s.f1.f0) := Kin.cell ((blk_cell T7 0).trans rfl)
        have r1 : ∀ u : Kin w5, u.at'.cell? ⟨p7, 1, none⟩ = some (.int .i64 s.f1.f1) := Kin.cell ((blk_cell T7 1).trans rfl)
        have r2 : ∀ u : Kin w5, u.at'.cell? ⟨p7, 2, none⟩ = some (.int .i64 s.f1.f2) := Kin.cell ((blk_cell T7 2).trans rfl)
        have y0 : ∀ u : Kin w5, u.at'.cell? ⟨g, k * 4, none⟩ = some (.int .i64 s.f0) := Kin.cell (pw_cell_below b5 p0)
        have y1 : ∀ u : Kin w5, u.at'.cell? ⟨g, k * 4 + 1, none⟩ = some (.int .i64 s.f1.f0) := Kin.cell (pw_cell_below b5 p1)
        have y2 : ∀ u : Kin w5, u.at'.cell? ⟨g, k * 4 + 2, none⟩ = some (.int .i64 s.f1.f1) := Kin.cell (pw_cell_below b5 p2)
        have y3 : ∀ u : Kin w5, u.at'.cell? ⟨g, k * 4 + 3, none⟩ = some (.int .i64 s.f1.f2) := Kin.cell (pw_cell_below b5 p3)
        have lk : ∀ u : Kin w5, Sem.run Try.prog (Instr.lookup 51 (.map (some bm)) (.int .i64 s.f0) false) u.at' = .ok (.bool false) u.at' := fun u => hlook _ (hMk.kept (((b5.trans (u.bel.mono b5.size))).block bm hMk.lt))
        clear hlook
        rcases Nat.eq_zero_or_pos k with hk0 | hk0
        · have d0 : decide (0 < k) = false := by simp; omega
          have HK := Aside0.mk hk0
          clear hk0 hq hbq T7 p1 p2 p3
          refine region_kin (by kernel_rfl) (by kernel_rfl) ?_
          repeat (go_big_quiet_step (fail))
          refine wpQuiet_nil ?_
          rintro w6 ⟨⟨_, b6⟩, rfl⟩
          clear r0 r1 r2 y0 y1 y2 y3 lk
          have bb := b5.trans (b6.mono b5.size)
          have hM6 := hMk.kept (bb.block bm hMk.lt)
          have p0' := pw_cell_below bb p0
          go_wp2_with (first | (at_mapUpdate; refine wp_put elB rfl _ _ _ rfl Try.underlying3 Try.underlying51 rfl hM6 s.f0 rfl hid true rfl trivial (by unfold maxLen; omega) ?_; intro w7 hM7 hT7))
          go_roundw
          case rel => exact HS.out w6 w7 _ (hm.of_below bb) (Kd.R_below hRk bb) hM6 (hb.trans (bb.mono hB)) (Nat.le_trans hB bb.size) hM7 (by split <;> omega) hT7
          case measure => simp [intOf]; omega
        · obtain ⟨p, rfl⟩ : ∃ p, k = p + 1 := ⟨k - 1, by omega⟩
          obtain ⟨q0, q1, q2, q3⟩ := hq p rfl
          have hbf := hbq p rfl
          have hql : p / 2 < l.length := by omega
          obtain ⟨q, hqe⟩ : ∃ q, q = p / 2 := ⟨_, rfl⟩
          rw [← hqe] at q0 q1 q2 q3 hbf hql
          have b3 : (0 : Int) ≤ (q : Int) := by omega
          have b4 : (q : Int) < (l.length : Int) := by omega
          have b6 : IntKind.i64.wrap (p : Int) = (p : Int) := IntWalk.i64_in _ (by omega)
          have b7 : (p : Int).tdiv 2 = (q : Int) := by rw [hqe, Int.tdiv_eq_ediv_of_nonneg (by omega)]; omega
          have b8 : IntKind.i64.wrap (q : Int) = (q : Int) := IntWalk.i64_in _ (by omega)
          have b9 : (0 : Int) ≤ (p : Int) + 1 := by omega
          have b10 : (p : Int) + 1 < (l.length : Int) := by omega
          have b11 : ((p : Int) + 1).toNat = p + 1 := by omega
          have d0 : decide (0 < p + 1) = true := by simp
          have z0 : ∀ u : Kin w5, u.at'.cell? ⟨g, q * 4, none⟩ = some (.int .i64 (at_ l q).f0) := Kin.cell (pw_cell_below b5 q0)
          have z1 : ∀ u : Kin w5, u.at'.cell? ⟨g, q * 4 + 1, none⟩ = some (.int .i64 (at_ l q).f1.f0) := Kin.cell (pw_cell_below b5 q1)
          have z2 : ∀ u : Kin w5, u.at'.cell? ⟨g, q * 4 + 2, none⟩ = some (.int .i64 (at_ l q).f1.f1) := Kin.cell (pw_cell_below b5 q2)
          have z3 : ∀ u : Kin w5, u.at'.cell? ⟨g, q * 4 + 3, none⟩ = some (.int .i64 (at_ l q).f1.f2) := Kin.cell (pw_cell_below b5 q3)
          have hbc : ∀ w9 : World, Calls Try.prog 16 _ w9 _ := fun w9 => bet_calls s (at_ l q) w9
          rw [hbf] at hbc
          clear hbf hqe hq hbq hk0 T7 p1 p2 p3 q0 q1 q2 q3
          generalize at_ l q = s2 at z0 z1 z2 z3 hbc
          rw [show ((p + 1 : Nat) : Int) = (p : Int) + 1 from rfl]
          refine region_kin (by kernel_rfl) (by kernel_rfl) ?_
          repeat (go_big_quiet_step ((go_at_call 16; exact Kin.call (hbc _))))
          refine wpQuiet_nil ?_
          rintro w6 ⟨⟨_, b6⟩, rfl⟩
          clear r0 r1 r2 y0 y1 y2 y3 lk z0 z1 z2 z3 hbc
          have bb := b5.trans (b6.mono b5.size)
          have hM6 := hMk.kept (bb.block bm hMk.lt)
          have p0' := pw_cell_below bb p0
          go_wp2_with (first | (at_mapUpdate; refine wp_put elB rfl _ _ _ rfl Try.underlying3 Try.underlying51 rfl hM6 s.f0 rfl hid true rfl trivial (by unfold maxLen; omega) ?_; intro w7 hM7 hT7))
          go_roundw
          case rel => exact HS.out w6 w7 _ (hm.of_below bb) (Kd.R_below hRk bb) hM6 (hb.trans (bb.mono hB)) (Nat.le_trans hB bb.size) hM7 (by split <;> omega) hT7
          case measure => simp [intOf]; omega
      · have b2 : (l.length : Int) ≤ (k : Int) := by omega
        have ht := top_calls hm
        have hlen := fun (w9 : World) (h : Below wr.heap.size wr w9) => len_calls (hm.of_below h)
        clear hMk
        rcases Nat.eq_zero_or_pos l.length with hz | hz
        · have hnil : l = [] := List.eq_nil_of_length_eq_zero hz
          subst hnil
          go_wp2_with fail
          refine ht.mono ?_
          rintro e w4 ⟨rfl, b4⟩
          go_upto_region 16 with (fail)
          have b5 := below_alloc b4 (Obj.cells #[.int .i64 (at_ [] 0).f0, .int .i64 (at_ [] 0).f1.f0, .int .i64 (at_ [] 0).f1.f1, .int .i64 (at_ [] 0).f1.f2] 33)
          generalize w4.alloc (Obj.cells #[.int .i64 (at_ [] 0).f0, .int .i64 (at_ [] 0).f1.f0, .int .i64 (at_ [] 0).f1.f1, .int .i64 (at_ [] 0).f1.f2] 33) = w5 at b5 ⊢
          go_wp2_with fail
          refine (hlen w5 b5).mono ?_
          rintro e w6 ⟨rfl, rfl⟩
          go_wp2_with fail
          refine (live_calls w6).mono ?_
          rintro e w7 ⟨rfl, b7⟩
          go_wp2
          go_ret
          exact ⟨rfl, hb.trans ((b5.trans (b7.mono b5.size)).mono hB)⟩
        · obtain ⟨g, rfl, hcs⟩ := R_slot hRk hz
          obtain ⟨p0, p1, p2, p3⟩ := hcs 0 hz
          simp only [Nat.zero_mul, Nat.zero_add] at p0 p1 p2 p3
          have hz0 : ((l.length : Int) == 0) = false := beq_eq_false_iff_ne.2 (by omega)
          have hz1 : (l.length == 0) = false := beq_eq_false_iff_ne.2 (by omega)
          have hz2 : (0 : Int) < (l.length : Int) := by omega
          rw [show decide (0 < l.length) = true from decide_eq_true hz] at ht
          clear hcs
          generalize at_ l 0 = s at ht p0 p1 p2 p3
          go_wp2_with fail
          refine ht.mono ?_
          clear ht
          rintro e w4 ⟨rfl, b4⟩
          go_upto_region 16 with (fail)
          have b5 := below_alloc b4 (Obj.cells #[.int .i64 s.f0, .int .i64 s.f1.f0, .int .i64 s.f1.f1, .int .i64 s.f1.f2] 33)
          have T7 := heap_alloc_new w4 (Obj.cells #[.int .i64 s.f0, .int .i64 s.f1.f0, .int .i64 s.f1.f1, .int .i64 s.f1.f2] 33)
          generalize w4.alloc (Obj.cells #[.int .i64 s.f0, .int .i64 s.f1.f0, .int .i64 s.f1.f1, .int .i64 s.f1.f2] 33) = w5 at b5 T7 ⊢
          generalize w4.heap.size = p9 at T7 ⊢
          go_upto_region 18 with (fail)
          have r0 : ∀ u : Kin w5, u.at'.cell? ⟨p9, 0, none⟩ = some (.int .i64 s.f0) := Kin.cell ((blk_cell T7 0).trans rfl)
          have r1 : ∀ u : Kin w5, u.at'.cell? ⟨p9, 1, none⟩ = some (.int .i64 s.f1.f0) := Kin.cell ((blk_cell T7 1).trans rfl)
          have r2 : ∀ u : Kin w5, u.at'.cell? ⟨p9, 2, none⟩ = some (.int .i64 s.f1.f1) := Kin.cell ((blk_cell T7 2).trans rfl)
          have r3 : ∀ u : Kin w5, u.at'.cell? ⟨p9, 3, none⟩ = some (.int .i64 s.f1.f2) := Kin.cell ((blk_cell T7 3).trans rfl)
          have y0 : ∀ u : Kin w5, u.at'.cell? ⟨g, 0, none⟩ = some (.int .i64 s.f0) := Kin.cell (pw_cell_below b5 p0)
          have y1 : ∀ u : Kin w5, u.at'.cell? ⟨g, 1, none⟩ = some (.int .i64 s.f1.f0) := Kin.cell (pw_cell_below b5 p1)
          have y2 : ∀ u : Kin w5, u.at'.cell? ⟨g, 2, none⟩ = some (.int .i64 s.f1.f1) := Kin.cell (pw_cell_below b5 p2)
          have y3 : ∀ u : Kin w5, u.at'.cell? ⟨g, 3, none⟩ = some (.int .i64 s.f1.f2) := Kin.cell (pw_cell_below b5 p3)
          have hln : ∀ u : Kin w5, _ := fun u => hlen u.at' (b5.trans (u.bel.mono b5.size))
          clear hlen T7 p0 p1 p2 p3
          refine region_kin (by kernel_rfl) (by kernel_rfl) ?_
          repeat (go_big_quiet_step ((first | (go_at_call 15; exact Kin.same (hln _)) | (go_at_call 10; exact Kin.call (live_calls _)))))
          refine wpQuiet_nil ?_
          rintro w6 ⟨⟨_, b6⟩, rfl⟩
          go_wp2
          go_ret
          exact ⟨rfl, hb.trans ((b5.trans (b6.mono b5.size)).mono hB)⟩
end Go.Proofs.Ytejhkadalahcjaa.XHand
