/- law10's live, walked. -/
import Derived.Test.YtejhkadalahcjaaXHeapRTop
import Derived.KernelRfl
namespace Go.Proofs.Ytejhkadalahcjaa.XHeap
open Go.RowKit Go.Proofs.YtejhkadalahcjaaW.PrintWords Go.Proofs.YtejhkadalahcjaaW.PrintLast Go.Proofs.YtejhkadalahcjaaW.PrintMore Go.Proofs.Ytejhkadalahcjaa.XBetter Go.Proofs.Ytejhkadalahcjaa.XMap Go.Proofs.Ytejhkadalahcjaa.PA
set_option linter.unusedVariables false
set_option linter.unusedSimpArgs false
theorem HA.step {w0 w1 w2 : World} {base a b : Nat} {v : Value} {l : List Slot} (h : HA w1 base a b v l) (k : Keep3 w1 w2 a b v) (hb : Below base w0 w1) (hB : base ≤ w1.heap.size) : Below base w0 w2 :=
  k.below hb hB h.mem.ha h.mem.hb (fun g hg => Kd.R_base h.mem.sl g hg)
instance i64dec (x : Int) : Decidable (i64ok x) := by unfold i64ok; infer_instance
def s5 : Slot := ⟨5, ⟨1, 0, 0⟩⟩
def s3 : Slot := ⟨3, ⟨1, 0, 0⟩⟩
def s9 : Slot := ⟨9, ⟨0, 9, 9⟩⟩
def s9' : Slot := ⟨9, ⟨1, 0, 1⟩⟩
section
variable {w0 w : World} {base a b : Nat} {v : Value} {l : List Slot}
theorem live_put {l' : List Slot} {q : Bool} (h : HA w base a b v l) (hb : Below base w0 w) (hB : base ≤ w.heap.size) (s : Slot) (hs : i64ok s.f0) (hl : l.length < 4096) (e1 : putL l s = l') (e2 : putB l s = q) :
    Calls Try.prog 22 #[.pointer (some ⟨a, 0, none⟩), .int .i64 s.f0, .agg #[.int .i64 s.f1.f0, .int .i64 s.f1.f1, .int .i64 s.f1.f2]] w fun e w' => e = .returned (.bool q) ∧ (∃ v', HA w' base a b v' l') ∧ Below base w0 w' ∧ base ≤ w'.heap.size := by
  subst e1; subst e2
  refine (put_calls h s hs hl).mono ?_
  rintro e w' ⟨rfl, v', h1, h2, _⟩
  exact ⟨rfl, ⟨v', h1⟩, h.step h2 hb hB, Nat.le_trans hB h2.size⟩
theorem live_drop {l' : List Slot} {q : Bool} (h : HA w base a b v l) (hb : Below base w0 w) (hB : base ≤ w.heap.size) (id : Int) (hid : i64ok id) (e1 : dropL l id = l') (e2 : dropB l id = q) :
    Calls Try.prog 21 #[.pointer (some ⟨a, 0, none⟩), .int .i64 id] w fun e w' => e = .returned (.bool q) ∧ (∃ v', HA w' base a b v' l') ∧ Below base w0 w' ∧ base ≤ w'.heap.size := by
  subst e1; subst e2
  refine (drop_calls h id hid).mono ?_
  rintro e w' ⟨rfl, v', h1, h2, _⟩
  exact ⟨rfl, ⟨v', h1⟩, h.step h2 hb hB, Nat.le_trans hB h2.size⟩
end
set_option maxRecDepth 100000 in
set_option maxHeartbeats 4000000 in
theorem live_calls (w : World) : Calls Try.prog 10 #[] w fun e w' => e = .returned (.bool true) ∧ Below w.heap.size w w' := by
  go_enter Try.func10, Try.ntmps10
  go_wp2_with fail
  refine (new_calls w).mono ?_
  rintro e w1 ⟨a, b, rfl, h1, hb1⟩
  have hz := hb1.size
  generalize hbase : w.heap.size = base at h1 hb1 hz ⊢
  have HBS := Aside0.mk hbase
  clear hbase
  go_wp2_with fail
  refine (live_put h1 hb1 hz s5 (by decide) (by decide) (l' := [s5]) (q := true) (by kernel_rfl) (by kernel_rfl)).mono ?_
  clear h1 hb1 hz
  rintro e w2 ⟨rfl, ⟨v2, h2⟩, hb2, hz2⟩
  go_wp2_with fail
  refine (live_put h2 hb2 hz2 s3 (by decide) (by decide) (l' := [s3, s5]) (q := true) (by kernel_rfl) (by kernel_rfl)).mono ?_
  clear h2 hb2 hz2
  rintro e w3 ⟨rfl, ⟨v3, h3⟩, hb3, hz3⟩
  go_wp2_with fail
  refine (live_put h3 hb3 hz3 s9 (by decide) (by decide) (l' := [s3, s5, s9]) (q := true) (by kernel_rfl) (by kernel_rfl)).mono ?_
  clear h3 hb3 hz3
  rintro e w4 ⟨rfl, ⟨v4, h4⟩, hb4, hz4⟩
  go_wp2_with fail
  refine (live_put h4 hb4 hz4 s9' (by decide) (by decide) (l' := [s9', s5, s3]) (q := false) (by kernel_rfl) (by kernel_rfl)).mono ?_
  clear h4 hb4 hz4
  rintro e w5 ⟨rfl, ⟨v5, h5⟩, hb5, hz5⟩
  have ht : Calls Try.prog 11 #[.pointer (some ⟨a, 0, none⟩)] w5 fun e w' => e = .returned (.tuple #[.agg #[.int .i64 9, .int .i64 1, .int .i64 0, .int .i64 1], .bool true]) ∧ Below w5.heap.size w5 w' := top_some h5 (by decide)
  go_wp2_with fail
  refine ht.mono ?_
  clear ht
  rintro e w6 ⟨rfl, b6⟩
  go_upto_region 9 with (fail)
  have b7 := below_alloc b6 (Obj.cells #[.int .i64 9, .int .i64 1, .int .i64 0, .int .i64 1] 33)
  have T1 := heap_alloc_new w6 (Obj.cells #[.int .i64 9, .int .i64 1, .int .i64 0, .int .i64 1] 33)
  have p1z : w5.heap.size ≤ w6.heap.size := b6.size
  generalize w6.alloc (Obj.cells #[.int .i64 9, .int .i64 1, .int .i64 0, .int .i64 1] 33) = w7 at b7 T1 ⊢
  have la := Nat.lt_of_lt_of_le (blk_lt h5.mem.hd) p1z
  have lb := Nat.lt_of_lt_of_le h5.mem.mp.lt p1z
  have lv : ∀ k, v5.ownBlock = some k → k < w6.heap.size := fun k hk => Nat.lt_of_lt_of_le (Kd.R_lt h5.mem.sl k hk) p1z
  generalize w6.heap.size = p1 at T1 p1z la lb lv ⊢
  have h7 := h5.of_below b7
  have hb7 : Below base w w7 := hb5.trans (b7.mono hz5)
  have hz7 : base ≤ w7.heap.size := Nat.le_trans hz5 b7.size
  have q1 : base ≤ p1 := Nat.le_trans hz5 p1z
  clear h5 hb5 b6 b7
  have hg : Calls Try.prog 20 #[.pointer (some ⟨a, 0, none⟩), .int .i64 3] w7 fun e w' => e = .returned (.tuple #[.agg #[.int .i64 1, .int .i64 0, .int .i64 0], .bool true]) ∧ Below w7.heap.size w7 w' := get_some h7 2 (by decide)
  go_wp2_with fail
  refine hg.mono ?_
  clear hg
  rintro e w8 ⟨rfl, b8⟩
  go_upto_region 10 with (fail)
  have b9 := below_alloc b8 (Obj.cells #[.int .i64 1, .int .i64 0, .int .i64 0] 31)
  have T2 := heap_alloc_new w8 (Obj.cells #[.int .i64 1, .int .i64 0, .int .i64 0] 31)
  have p2z : w7.heap.size ≤ w8.heap.size := b8.size
  generalize w8.alloc (Obj.cells #[.int .i64 1, .int .i64 0, .int .i64 0] 31) = w9 at b9 T2 ⊢
  have l12 := Nat.lt_of_lt_of_le (blk_lt T1) p2z
  generalize w8.heap.size = p2 at T2 p2z l12 ⊢
  have h9 := h7.of_below b9
  have hb9 : Below base w w9 := hb7.trans (b9.mono hz7)
  have hz9 : base ≤ w9.heap.size := Nat.le_trans hz7 b9.size
  have q2 : base ≤ p2 := Nat.le_trans hz7 p2z
  replace T1 := blk_below T1 b9
  clear h7 hb7 b8 b9
  have lt1 := blk_lt T1
  have lt2 := blk_lt T2
  go_wp2_with fail
  refine (drop_calls h9 9 (by decide)).mono ?_
  rintro e w10 ⟨rfl, v10, h10, k10, g10⟩
  rw [show dropL [s9', s5, s3] 9 = [s3, s5] from by kernel_rfl] at h10
  rw [show dropB [s9', s5, s3] 9 = true from by kernel_rfl]
  have hb10 := h9.step k10 hb9 hz9
  have hz10 : base ≤ w10.heap.size := Nat.le_trans hz9 k10.size
  replace T1 := (k10.blk p1 lt1 (by omega) (by omega) (fun e => by have := lv p1 e.symm; omega)).trans T1
  replace T2 := (k10.blk p2 lt2 (by omega) (by omega) (fun e => by have := lv p2 e.symm; omega)).trans T2
  clear h9 hb9 k10 g10 lt1 lt2 lv
  have ht : Calls Try.prog 11 #[.pointer (some ⟨a, 0, none⟩)] w10 fun e w' => e = .returned (.tuple #[.agg #[.int .i64 3, .int .i64 1, .int .i64 0, .int .i64 0], .bool true]) ∧ Below w10.heap.size w10 w' := top_some h10 (by decide)
  go_wp2_with fail
  refine ht.mono ?_
  clear ht
  rintro e w11 ⟨rfl, b11⟩
  go_upto_region 12 with (fail)
  have b12 := below_alloc b11 (Obj.cells #[.int .i64 3, .int .i64 1, .int .i64 0, .int .i64 0] 33)
  have T3 := heap_alloc_new w11 (Obj.cells #[.int .i64 3, .int .i64 1, .int .i64 0, .int .i64 0] 33)
  generalize w11.alloc (Obj.cells #[.int .i64 3, .int .i64 1, .int .i64 0, .int .i64 0] 33) = w12 at b12 T3 ⊢
  generalize w11.heap.size = p3 at T3 ⊢
  have h12 := h10.of_below b12
  have hb12 : Below base w w12 := hb10.trans (b12.mono hz10)
  replace T1 := blk_below T1 b12
  replace T2 := blk_below T2 b12
  clear h10 hb10 b11 b12
  go_wp2_with fail
  refine (drop_not h12 9 (by decide) (by kernel_rfl)).mono ?_
  rintro e w13 ⟨rfl, rfl⟩
  have t0 : w13.cell? ⟨p1, 0, none⟩ = some (.int .i64 9) := (blk_cell T1 0).trans rfl
  have r0 : w13.cell? ⟨p2, 0, none⟩ = some (.int .i64 1) := (blk_cell T2 0).trans rfl
  have r1 : w13.cell? ⟨p2, 1, none⟩ = some (.int .i64 0) := (blk_cell T2 1).trans rfl
  have r2 : w13.cell? ⟨p2, 2, none⟩ = some (.int .i64 0) := (blk_cell T2 2).trans rfl
  have u0 : w13.cell? ⟨p3, 0, none⟩ = some (.int .i64 3) := (blk_cell T3 0).trans rfl
  clear T1 T2 T3
  go_wp2_with (first | (rw [eq3]; go_simp))
  refine (len_calls h12).mono ?_
  rintro e w14 ⟨rfl, rfl⟩
  clear t0 r0 r1 r2 u0
  go_wp2_with fail
  refine (slots_calls h12).mono ?_
  rintro e w15 ⟨vs, rfl, hR, b15⟩
  obtain ⟨As, cs, rfl⟩ := Kd.R_slice hR
  have hb15 : Below base w w15 := hb12.trans (b15.mono (Nat.le_trans (Nat.le_of_lt (Nat.lt_of_le_of_lt h12.mem.ha (blk_lt h12.mem.hd))) (Nat.le_refl _)))
  have hz15 : base ≤ w15.heap.size := Nat.le_trans (Nat.le_of_lt (Nat.lt_of_le_of_lt h12.mem.ha (blk_lt h12.mem.hd))) b15.size
  clear h12 hb12 hR b15
  have c1 : Calls Try.prog 16 #[.agg #[.int .i64 1, .int .i64 0, .int .i64 0, .int .i64 0], .agg #[.int .i64 2, .int .i64 0, .int .i64 0, .int .i64 0]] w15 fun e w' => e = .returned (.bool true) ∧ Below w15.heap.size w15 w' := bet_calls ⟨1, ⟨0, 0, 0⟩⟩ ⟨2, ⟨0, 0, 0⟩⟩ w15
  go_wp2_with fail
  refine c1.mono ?_
  clear c1
  rintro e w16 ⟨rfl, b16⟩
  have c2 : Calls Try.prog 16 #[.agg #[.int .i64 2, .int .i64 0, .int .i64 0, .int .i64 0], .agg #[.int .i64 1, .int .i64 0, .int .i64 0, .int .i64 0]] w16 fun e w' => e = .returned (.bool false) ∧ Below w16.heap.size w16 w' := bet_calls ⟨2, ⟨0, 0, 0⟩⟩ ⟨1, ⟨0, 0, 0⟩⟩ w16
  go_wp2_with fail
  refine c2.mono ?_
  clear c2
  rintro e w17 ⟨rfl, b17⟩
  go_wp2
  go_ret
  rw [HBS.out]
  exact ⟨rfl, (hb15.trans (b16.mono hz15)).trans (b17.mono (Nat.le_trans hz15 b16.size))⟩
end Go.Proofs.Ytejhkadalahcjaa.XHeap
