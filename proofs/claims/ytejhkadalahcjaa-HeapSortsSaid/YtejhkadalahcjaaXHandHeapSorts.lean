/- law10's HeapSorts, walked: taking the top one off tells all ids, each one worse than the one ahead. -/
import Derived.Test.YtejhkadalahcjaaXGood10
namespace Go.Proofs.Ytejhkadalahcjaa.XHand
open Go.RowKit Go.Proofs.YtejhkadalahcjaaW.PrintWords Go.Proofs.YtejhkadalahcjaaW.PrintLast Go.Proofs.YtejhkadalahcjaaW.PrintMore Go.Proofs.Ytejhkadalahcjaa.XBetter Go.Proofs.Ytejhkadalahcjaa.XMap Go.Proofs.Ytejhkadalahcjaa.PA Go.Proofs.Ytejhkadalahcjaa.XHeap
set_option linter.unusedVariables false
set_option linter.unusedSimpArgs false
def SortR (w : World) (base a b p5 n : Nat) (x : Value) (wr : World) : Prop :=
  ∃ (k : Nat) (l : List Slot) (v : Value) (ls : Slot), x = .int .i64 k ∧ l.length + k = n ∧ HA wr base a b v l ∧ Ord l ∧ wr.heap[p5]? = some (Obj.cells #[.int .i64 ls.f0, .int .i64 ls.f1.f0, .int .i64 ls.f1.f1, .int .i64 ls.f1.f2] 33) ∧ some p5 ≠ v.ownBlock ∧ (k = 0 ∨ ∀ t, t ∈ l → bet ls t = true) ∧ Below base w wr ∧ base ≤ wr.heap.size
set_option maxRecDepth 100000 in
set_option maxHeartbeats 4000000 in
theorem heapSorts_walk (A0 : Option Addr) (c0 : Nat) (ops : List OpT) (w : World) (hC : Kd.C k43 w A0 ops.length ops) (hc0 : ops.length ≤ c0) (hmax : ops.length ≤ maxLen) (hok : ∀ x ∈ ops, Ok43 x) :
    Calls Try.prog 5 #[.slice A0 ops.length c0] w fun e w' => e = .returned (.bool true) ∧ Below w.heap.size w w' := by
  have hoks := ops_ok hok
  clear hok hc0
  unfold maxLen at hmax
  have hmx : (ops.length : Int) ≤ 9223372036854775807 := by omega
  clear hmax
  by_cases hl : 100 < ops.length
  · have hl' : (100 : Int) < (ops.length : Int) := by omega
    go_enter Try.func5, Try.ntmps5
    go_wp2_with fail
    refine (live_calls w).mono ?_
    rintro e w1 ⟨rfl, b1⟩
    go_wp2
    go_ret
    exact ⟨rfl, b1⟩
  · have hl' : (ops.length : Int) ≤ 100 := by omega
    have hlen : ops.length ≤ 100 := by omega
    clear hl hmx
    go_enter Try.func5, Try.ntmps5
    go_wp2_with fail
    refine (some_calls hC hoks hlen).mono ?_
    rintro e w1 ⟨a, b, v, rfl, h1, hb1⟩
    have hg := good_some hoks hlen ops.length (Nat.le_refl _)
    have hn := someTo_length ops ops.length (Nat.le_refl _)
    have hbz := hb1.size
    generalize someTo ops ops.length = l at h1 hg hn
    replace hn : l.length ≤ 100 := Nat.le_trans hn hlen
    clear hC hoks hl' hlen
    go_wp2_with fail
    refine (len_calls h1).mono ?_
    rintro e w2 ⟨rfl, rfl⟩
    go_upto_region 8 with (fail)
    have b2 := below_alloc (Below.refl w2.heap.size w2) (Obj.cells #[.int .i64 0, .int .i64 0, .int .i64 0, .int .i64 0] 33)
    have T5 := heap_alloc_new w2 (Obj.cells #[.int .i64 0, .int .i64 0, .int .i64 0, .int .i64 0] 33)
    have hv5 : some w2.heap.size ≠ v.ownBlock := fun e => Nat.lt_irrefl _ (Kd.R_lt h1.mem.sl _ e.symm)
    generalize w2.alloc (Obj.cells #[.int .i64 0, .int .i64 0, .int .i64 0, .int .i64 0] 33) = w3 at b2 T5 ⊢
    generalize w2.heap.size = p5 at T5 hv5 hbz ⊢
    have h3 := h1.of_below b2
    have hb3 : Below w.heap.size w w3 := hb1.trans (b2.mono hb1.size)
    clear h1 hb1 b2
    have hn' : (l.length : Int) ≤ 100 := by omega
    generalize hnn : l.length = n at hn hn' ⊢
    have HN := Aside0.mk hnn
    clear hnn
    go_wp2_with fail
    go_loopw [6] (fun x wr => SortR w w.heap.size a b p5 n x wr) (fun x _ => n - (intOf x).toNat)
    case atStart => exact ⟨0, l, v, z33, rfl, by have := HN.out; omega, h3, hg.ord, T5, hv5, .inl rfl, hb3, hb3.size⟩
    case round =>
      obtain ⟨k, m, vm, ls, rfl, hk, hm, hord, hT, hvp, hbet, hb, hB⟩ := hrel
      clear h3 hb3 T5 hv5 hg HN
      have b0 : (0 : Int) ≤ (k : Int) := by omega
      have b1 : (k : Int) ≤ 100 := by omega
      have HK := Aside0.mk hk
      clear hk
      by_cases hlt : 0 < m.length
      · have b3 : (k : Int) < (n : Int) := by have := HK.out; omega
        obtain ⟨d1, d2, d3⟩ := drop_top ⟨hord, hm.fine⟩ hlt
        have hid := hm.fine.ok _ (at_mem hlt)
        have ht := top_some hm hlt
        have HT := Aside0.mk (at_mem hlt)
        have HD := Aside0.mk d2
        have HB := Aside0.mk d1
        have hgd := (Good.drop ⟨hord, hm.fine⟩ (at_ m 0).f0).ord
        clear d1 d2 hlt
        generalize at_ m 0 = t at ht hid d3 HT HD HB hgd
        go_wp2_with fail
        refine ht.mono ?_
        clear ht
        rintro e w4 ⟨rfl, b4⟩
        go_upto_region 12 with (fail)
        have b5 := below_alloc b4 (Obj.cells #[.int .i64 t.f0, .int .i64 t.f1.f0, .int .i64 t.f1.f1, .int .i64 t.f1.f2] 33)
        have T7 := heap_alloc_new w4 (Obj.cells #[.int .i64 t.f0, .int .i64 t.f1.f0, .int .i64 t.f1.f1, .int .i64 t.f1.f2] 33)
        have hz7 : wr.heap.size ≤ w4.heap.size := b4.size
        generalize w4.alloc (Obj.cells #[.int .i64 t.f0, .int .i64 t.f1.f0, .int .i64 t.f1.f1, .int .i64 t.f1.f2] 33) = w5 at b5 T7 ⊢
        generalize w4.heap.size = p7 at T7 hz7 ⊢
        have hv7 : some p7 ≠ vm.ownBlock := fun e => by have := Kd.R_lt hm.mem.sl _ e.symm; omega
        have h57 : p5 < p7 := Nat.lt_of_lt_of_le (blk_lt hT) hz7
        have hm5 := hm.of_below b5
        have hT5 := blk_below hT b5
        have hb5 : Below w.heap.size w w5 := hb.trans (b5.mono hB)
        have hB5 : w.heap.size ≤ w5.heap.size := Nat.le_trans hB b5.size
        clear hm hT hb hB b4 b5 hz7
        rcases Nat.eq_zero_or_pos k with hk0 | hk0
        · have hk1 : (k : Int) ≤ 0 := by omega
          have HZ := Aside0.mk hk0
          clear hk0
          have hm6 := hm5
          have T76 := T7
          have hT6 := hT5
          have hb6 := hb5
          have hB6 := hB5
          clear hm5 T7 hT5 hb5 hB5
          have e0 : w5.cell? ⟨p7, 0, none⟩ = some (.int .i64 t.f0) := (blk_cell T76 0).trans rfl
          have e1 : w5.cell? ⟨p7, 1, none⟩ = some (.int .i64 t.f1.f0) := (blk_cell T76 1).trans rfl
          have e2 : w5.cell? ⟨p7, 2, none⟩ = some (.int .i64 t.f1.f1) := (blk_cell T76 2).trans rfl
          have e3 : w5.cell? ⟨p7, 3, none⟩ = some (.int .i64 t.f1.f2) := (blk_cell T76 3).trans rfl
          have f0 : w5.cell? ⟨p5, 0, none⟩ = some (.int .i64 ls.f0) := (blk_cell hT6 0).trans rfl
          have f1 : w5.cell? ⟨p5, 1, none⟩ = some (.int .i64 ls.f1.f0) := (blk_cell hT6 1).trans rfl
          have f2 : w5.cell? ⟨p5, 2, none⟩ = some (.int .i64 ls.f1.f1) := (blk_cell hT6 2).trans rfl
          have f3 : w5.cell? ⟨p5, 3, none⟩ = some (.int .i64 ls.f1.f2) := (blk_cell hT6 3).trans rfl
          have hcl := drop_calls hm6 t.f0 hid
          rw [HB.out] at hcl
          go_wp2_with fail
          refine hcl.mono ?_
          clear hcl
          rintro e w7 ⟨rfl, v7, h7, k7, g7⟩
          have hT7 := (k7.blk p7 (blk_lt T76) (hm6.ne_box T76 (by decide)).1 (hm6.ne_box T76 (by decide)).2 hv7).trans T76
          have hT57 := (k7.blk p5 (blk_lt hT6) (hm6.ne_box hT6 (by decide)).1 (hm6.ne_box hT6 (by decide)).2 hvp).trans hT6
          have hv57 : some p5 ≠ v7.ownBlock := by
            rcases g7 with e | ⟨g, e, hg⟩
            · rw [e]; exact hvp
            · rw [e]; intro q; injection q with q; have := blk_lt hT6; omega
          have hb7 := hm6.step k7 hb6 hB6
          have hB7 : w.heap.size ≤ w7.heap.size := Nat.le_trans hB6 k7.size
          clear hm6 T76 hT6 hb6 hB6 k7 g7 e0 e1 e2 e3 f0 f1 f2 f3
          generalize dropL m t.f0 = m' at h7 d3 HD hgd
          go_wp2_with fail
          refine (len_calls h7).mono ?_
          rintro e w8 ⟨rfl, rfl⟩
          have t1 : ((m'.length : Int) != (n : Int) - 1 - (k : Int)) = false := by have h1 := HD.out; have h2 := HK.out; simp; omega
          have t2 : (m'.length : Int) = (n : Int) - 1 - (k : Int) := by have h1 := HD.out; have h2 := HK.out; omega
          rw [t2] at t1 ⊢
          clear t2
          have e0 : w8.cell? ⟨p7, 0, none⟩ = some (.int .i64 t.f0) := (blk_cell hT7 0).trans rfl
          have e1 : w8.cell? ⟨p7, 1, none⟩ = some (.int .i64 t.f1.f0) := (blk_cell hT7 1).trans rfl
          have e2 : w8.cell? ⟨p7, 2, none⟩ = some (.int .i64 t.f1.f1) := (blk_cell hT7 2).trans rfl
          have e3 : w8.cell? ⟨p7, 3, none⟩ = some (.int .i64 t.f1.f2) := (blk_cell hT7 3).trans rfl
          have f0 : w8.cell? ⟨p5, 0, none⟩ = some (.int .i64 ls.f0) := (blk_cell hT57 0).trans rfl
          have f1 : w8.cell? ⟨p5, 1, none⟩ = some (.int .i64 ls.f1.f0) := (blk_cell hT57 1).trans rfl
          have f2 : w8.cell? ⟨p5, 2, none⟩ = some (.int .i64 ls.f1.f1) := (blk_cell hT57 2).trans rfl
          have f3 : w8.cell? ⟨p5, 3, none⟩ = some (.int .i64 ls.f1.f2) := (blk_cell hT57 3).trans rfl
          have g0 := blk_frozen hT57 0
          have g1 := blk_frozen hT57 1
          have g2 := blk_frozen hT57 2
          have g3 := blk_frozen hT57 3
          go_wp2
          go_roundw
          case rel =>
            have hne := h7.ne_box hT57 (by decide)
            refine ⟨k + 1, m', v7, t, by go_num, by have h1 := HD.out; have h2 := HK.out; omega, ?_, hgd, ?_, hv57, .inr d3, ?_, ?_⟩
            · exact h7.far hne.1 hne.2 hv57 (fun i hi => (Below.heap_setCell _ _ _ i hi).trans ((Below.heap_setCell _ _ _ i hi).trans ((Below.heap_setCell _ _ _ i hi).trans (Below.heap_setCell _ _ _ i hi))))
            · exact blk_set (blk_set (blk_set (blk_set hT57 0 _) 1 _) 2 _) 3 _
            · exact below_set (below_set (below_set (below_set hb7 hbz) hbz) hbz) hbz
            · simpa [World.setCell] using hB7
          case measure => simp [intOf]; have h1 := HK.out; have h2 := HD.out; omega
        · have hbt : bet ls t = true := (hbet.resolve_left (by omega)) t HT.out
          have hk1 : (0 : Int) < (k : Int) := by omega
          have hbc := bet_calls ls t w5
          rw [hbt] at hbc
          clear hbt
          have e0 : w5.cell? ⟨p7, 0, none⟩ = some (.int .i64 t.f0) := (blk_cell T7 0).trans rfl
          have e1 : w5.cell? ⟨p7, 1, none⟩ = some (.int .i64 t.f1.f0) := (blk_cell T7 1).trans rfl
          have e2 : w5.cell? ⟨p7, 2, none⟩ = some (.int .i64 t.f1.f1) := (blk_cell T7 2).trans rfl
          have e3 : w5.cell? ⟨p7, 3, none⟩ = some (.int .i64 t.f1.f2) := (blk_cell T7 3).trans rfl
          have f0 : w5.cell? ⟨p5, 0, none⟩ = some (.int .i64 ls.f0) := (blk_cell hT5 0).trans rfl
          have f1 : w5.cell? ⟨p5, 1, none⟩ = some (.int .i64 ls.f1.f0) := (blk_cell hT5 1).trans rfl
          have f2 : w5.cell? ⟨p5, 2, none⟩ = some (.int .i64 ls.f1.f1) := (blk_cell hT5 2).trans rfl
          have f3 : w5.cell? ⟨p5, 3, none⟩ = some (.int .i64 ls.f1.f2) := (blk_cell hT5 3).trans rfl
          go_wp2_with fail
          refine hbc.mono ?_
          clear hbc e0 e1 e2 e3 f0 f1 f2 f3
          rintro e w6 ⟨rfl, b6⟩
          have hm6 := hm5.of_below b6
          have T76 := blk_below T7 b6
          have hT6 := blk_below hT5 b6
          have hb6 : Below w.heap.size w w6 := hb5.trans (b6.mono hB5)
          have hB6 : w.heap.size ≤ w6.heap.size := Nat.le_trans hB5 b6.size
          clear hm5 T7 hT5 hb5 hB5 b6
          have e0 : w6.cell? ⟨p7, 0, none⟩ = some (.int .i64 t.f0) := (blk_cell T76 0).trans rfl
          have e1 : w6.cell? ⟨p7, 1, none⟩ = some (.int .i64 t.f1.f0) := (blk_cell T76 1).trans rfl
          have e2 : w6.cell? ⟨p7, 2, none⟩ = some (.int .i64 t.f1.f1) := (blk_cell T76 2).trans rfl
          have e3 : w6.cell? ⟨p7, 3, none⟩ = some (.int .i64 t.f1.f2) := (blk_cell T76 3).trans rfl
          have f0 : w6.cell? ⟨p5, 0, none⟩ = some (.int .i64 ls.f0) := (blk_cell hT6 0).trans rfl
          have f1 : w6.cell? ⟨p5, 1, none⟩ = some (.int .i64 ls.f1.f0) := (blk_cell hT6 1).trans rfl
          have f2 : w6.cell? ⟨p5, 2, none⟩ = some (.int .i64 ls.f1.f1) := (blk_cell hT6 2).trans rfl
          have f3 : w6.cell? ⟨p5, 3, none⟩ = some (.int .i64 ls.f1.f2) := (blk_cell hT6 3).trans rfl
          have hcl := drop_calls hm6 t.f0 hid
          rw [HB.out] at hcl
          go_wp2_with fail
          refine hcl.mono ?_
          clear hcl
          rintro e w7 ⟨rfl, v7, h7, k7, g7⟩
          have hT7 := (k7.blk p7 (blk_lt T76) (hm6.ne_box T76 (by decide)).1 (hm6.ne_box T76 (by decide)).2 hv7).trans T76
          have hT57 := (k7.blk p5 (blk_lt hT6) (hm6.ne_box hT6 (by decide)).1 (hm6.ne_box hT6 (by decide)).2 hvp).trans hT6
          have hv57 : some p5 ≠ v7.ownBlock := by
            rcases g7 with e | ⟨g, e, hg⟩
            · rw [e]; exact hvp
            · rw [e]; intro q; injection q with q; have := blk_lt hT6; omega
          have hb7 := hm6.step k7 hb6 hB6
          have hB7 : w.heap.size ≤ w7.heap.size := Nat.le_trans hB6 k7.size
          clear hm6 T76 hT6 hb6 hB6 k7 g7 e0 e1 e2 e3 f0 f1 f2 f3
          generalize dropL m t.f0 = m' at h7 d3 HD hgd
          go_wp2_with fail
          refine (len_calls h7).mono ?_
          rintro e w8 ⟨rfl, rfl⟩
          have t1 : ((m'.length : Int) != (n : Int) - 1 - (k : Int)) = false := by have h1 := HD.out; have h2 := HK.out; simp; omega
          have t2 : (m'.length : Int) = (n : Int) - 1 - (k : Int) := by have h1 := HD.out; have h2 := HK.out; omega
          rw [t2] at t1 ⊢
          clear t2
          have e0 : w8.cell? ⟨p7, 0, none⟩ = some (.int .i64 t.f0) := (blk_cell hT7 0).trans rfl
          have e1 : w8.cell? ⟨p7, 1, none⟩ = some (.int .i64 t.f1.f0) := (blk_cell hT7 1).trans rfl
          have e2 : w8.cell? ⟨p7, 2, none⟩ = some (.int .i64 t.f1.f1) := (blk_cell hT7 2).trans rfl
          have e3 : w8.cell? ⟨p7, 3, none⟩ = some (.int .i64 t.f1.f2) := (blk_cell hT7 3).trans rfl
          have f0 : w8.cell? ⟨p5, 0, none⟩ = some (.int .i64 ls.f0) := (blk_cell hT57 0).trans rfl
          have f1 : w8.cell? ⟨p5, 1, none⟩ = some (.int .i64 ls.f1.f0) := (blk_cell hT57 1).trans rfl
          have f2 : w8.cell? ⟨p5, 2, none⟩ = some (.int .i64 ls.f1.f1) := (blk_cell hT57 2).trans rfl
          have f3 : w8.cell? ⟨p5, 3, none⟩ = some (.int .i64 ls.f1.f2) := (blk_cell hT57 3).trans rfl
          have g0 := blk_frozen hT57 0
          have g1 := blk_frozen hT57 1
          have g2 := blk_frozen hT57 2
          have g3 := blk_frozen hT57 3
          go_wp2
          go_roundw
          case rel =>
            have hne := h7.ne_box hT57 (by decide)
            refine ⟨k + 1, m', v7, t, by go_num, by have h1 := HD.out; have h2 := HK.out; omega, ?_, hgd, ?_, hv57, .inr d3, ?_, ?_⟩
            · exact h7.far hne.1 hne.2 hv57 (fun i hi => (Below.heap_setCell _ _ _ i hi).trans ((Below.heap_setCell _ _ _ i hi).trans ((Below.heap_setCell _ _ _ i hi).trans (Below.heap_setCell _ _ _ i hi))))
            · exact blk_set (blk_set (blk_set (blk_set hT57 0 _) 1 _) 2 _) 3 _
            · exact below_set (below_set (below_set (below_set hb7 hbz) hbz) hbz) hbz
            · simpa [World.setCell] using hB7
          case measure => simp [intOf]; have h1 := HK.out; have h2 := HD.out; omega
      · have b3 : (n : Int) ≤ (k : Int) := by have := HK.out; omega
        have hnil : m = [] := List.eq_nil_of_length_eq_zero (by omega)
        subst hnil
        go_wp2_with fail
        refine (top_none hm).mono ?_
        rintro e w4 ⟨rfl, b4⟩
        go_wp2_with fail
        refine (live_calls _).mono ?_
        rintro e w5 ⟨rfl, b5⟩
        go_wp2
        go_ret
        exact ⟨rfl, hb.trans ((below_step (below_alloc b4 _) b5).mono hB)⟩
end Go.Proofs.Ytejhkadalahcjaa.XHand
