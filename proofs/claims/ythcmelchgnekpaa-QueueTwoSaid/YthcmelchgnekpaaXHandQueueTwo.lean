/- law17's QueueTwo, walked: two changes pushed, in either order. -/
import Derived.Test.YthcmelchgnekpaaXIm17
import Derived.Test.YthcmelchgnekpaaXTwo17
namespace Go.Proofs.Ythcmelchgnekpaa.XHand
open Go.RowKit Go.Proofs.YthcmelchgnekpaaW.PrintWords Go.Proofs.YthcmelchgnekpaaW.PrintLast Go.Proofs.YthcmelchgnekpaaW.PrintMore Go.Proofs.Ythcmelchgnekpaa.XQuiet Go.Proofs.Ythcmelchgnekpaa.XMem Go.Proofs.Ythcmelchgnekpaa.PA Go.Proofs.Ythcmelchgnekpaa.XV17
open Go.Proofs.Ythcmelchgnekpaa.XLive17 hiding Ch Se
set_option linter.unusedVariables false
set_option linter.unusedSimpArgs false
set_option maxRecDepth 100000 in
set_option maxHeartbeats 8000000 in
theorem queueTwo_walk (A0 : Option Addr) (c0 : Nat) (l : List Ch) (lat : Bool) (A1 : Option Addr) (c1 : Nat) (t : List Se) (xn : ByteArray) (xb : Bool) (x1 x2 x3 : Int) (xs : ByteArray) (yn : ByteArray) (yb : Bool) (y1 y2 y3 : Int) (ys : ByteArray) (w : World) (hr0 : Kd.C kCh w A0 l.length l) (hc0 : l.length ≤ c0) (hr1 : Kd.C kSe w A1 t.length t) (hc1 : t.length ≤ c1) (m0 : l.length ≤ maxLen) (o0 : ∀ x ∈ l, Ok33 x) (m1 : t.length ≤ maxLen) (o1 : ∀ x ∈ t, Ok52 x) (g1 : xn.size ≤ maxLen) (g2 : (Lit.int .i64 x1).wf = true) (g3 : (Lit.int .i64 x2).wf = true) (g4 : (Lit.int .i64 x3).wf = true) (g5 : xs.size ≤ maxLen) (g6 : yn.size ≤ maxLen) (g7 : (Lit.int .i64 y1).wf = true) (g8 : (Lit.int .i64 y2).wf = true) (g9 : (Lit.int .i64 y3).wf = true) (g10 : ys.size ≤ maxLen) :
    Calls Try.prog 7 #[.agg #[.slice A0 l.length c0, .bool lat], .slice A1 t.length c1, .agg #[.string xn, .bool xb, .int .i64 x1, .int .i64 x2, .int .i64 x3, .string xs, .string yn, .bool yb, .int .i64 y1, .int .i64 y2, .int .i64 y3, .string ys]] w fun e w' => e = .returned (.bool true) ∧ Below w.heap.size w w' := by
  have hi := Im.of_C k33_heap hr0 hc0
  have ht := Im.of_C k52_heap hr1 hc1
  clear hr0 hr1 m0 o0 m1 o1 g1 g2 g3 g4 g5 g6 g7 g8 g9 g10 hc0 hc1
  obtain ⟨b0, hb0, hl0⟩ := few_f 60 l lat (by omega)
  have F0 := Aside0.mk hb0
  have H0 := Aside0.mk hl0
  clear hb0 hl0
  obtain ⟨b2, hb2, hl2⟩ := fewS_f 60 t (by omega)
  have F2 := Aside0.mk hb2
  have H2 := Aside0.mk hl2
  clear hb2 hl2
  obtain ⟨b3, hb3, hl3⟩ := mayT_f 200 t (by omega)
  have F3 := Aside0.mk hb3
  have H3 := Aside0.mk hl3
  clear hb3 hl3
  obtain ⟨b4, hb4, _⟩ := changes_f 60 [(⟨xn, xb, ⟨x1, x2, x3, xs⟩⟩ : Ch), ⟨yn, yb, ⟨y1, y2, y3, ys⟩⟩] 2 (by omega) (by omega)
  have F4 := Aside0.mk hb4
  clear hb4
  have F5 := Aside0.mk (refOne_f 200 (⟨xn, xb, ⟨x1, x2, x3, xs⟩⟩ : Ch) (by omega))
  have F6 := Aside0.mk (refOne_f 200 (⟨yn, yb, ⟨y1, y2, y3, ys⟩⟩ : Ch) (by omega))
  generalize oneB (⟨xn, xb, ⟨x1, x2, x3, xs⟩⟩ : Ch) = b5 at F5
  generalize oneB (⟨yn, yb, ⟨y1, y2, y3, ys⟩⟩ : Ch) = b6 at F6
  go_enter Try.func7, Try.ntmps7
  have HB : Below w.heap.size w w := Below.refl _ _
  have hM : Mem w [] := Mem.nil w
  go_upto_region 1 with (fail)
  generalize hg : World.alloc _ _ = w1
  obtain ⟨hB', hM', hb⟩ := Mem.new2 hg HB hM
  have hz : Im kCh w1 (.slice (some ⟨w.heap.size + 1, 0, none⟩) 2 2) [(⟨xn, xb, ⟨x1, x2, x3, xs⟩⟩ : Ch), (⟨yn, yb, ⟨y1, y2, y3, ys⟩⟩ : Ch)] := by
    have := Im.lit kCh hg (xs := [(⟨xn, xb, ⟨x1, x2, x3, xs⟩⟩ : Ch), (⟨yn, yb, ⟨y1, y2, y3, ys⟩⟩ : Ch)]) (Reps.c6 (k33_mkM _ _ _ (⟨xn, xb, ⟨x1, x2, x3, xs⟩⟩ : Ch)) (Reps.c6 (k33_mkM _ _ _ (⟨yn, yb, ⟨y1, y2, y3, ys⟩⟩ : Ch)) (Reps.none _ _))) (by simp)
    rw [show ∀ o : Obj, (w.alloc o).heap.size = w.heap.size + 1 from fun o => by simp] at this
    exact this
  clear HB hM hg
  have HB := hB'
  have hM := hM'
  replace hi := hi.below hb
  replace ht := ht.below hb
  clear hB' hM' hb
  generalize w.heap.size + 1 = p5 at hM hz ⊢
  have HS := Aside0.mk HB.size
  generalize w.heap.size = p3 at hM ⊢
  have q0 := hM.cell 1 0 rfl rfl
  have q1 := hM.cell 1 1 rfl rfl
  have r0 := hM.cell 0 0 rfl rfl
  have r1 := hM.cell 0 1 rfl rfl
  have r2 := hM.cell 0 2 rfl rfl
  have r3 := hM.cell 0 3 rfl rfl
  have r4 := hM.cell 0 4 rfl rfl
  have r5 := hM.cell 0 5 rfl rfl
  have r6 := hM.cell 0 6 rfl rfl
  have r7 := hM.cell 0 7 rfl rfl
  have r8 := hM.cell 0 8 rfl rfl
  have r9 := hM.cell 0 9 rfl rfl
  have r10 := hM.cell 0 10 rfl rfl
  have r11 := hM.cell 0 11 rfl rfl
  go_wp2_with fail
  refine (few_im hi F0.out).mono ?_
  rintro e w2 ⟨rfl, hb⟩
  replace HB := below_step HB hb
  replace hM := hM.below hb
  replace hi := hi.below hb
  replace ht := ht.below hb
  replace hz := hz.below hb
  replace q0 := pw_cell_below hb q0
  replace q1 := pw_cell_below hb q1
  replace r0 := pw_cell_below hb r0
  replace r1 := pw_cell_below hb r1
  replace r2 := pw_cell_below hb r2
  replace r3 := pw_cell_below hb r3
  replace r4 := pw_cell_below hb r4
  replace r5 := pw_cell_below hb r5
  replace r6 := pw_cell_below hb r6
  replace r7 := pw_cell_below hb r7
  replace r8 := pw_cell_below hb r8
  replace r9 := pw_cell_below hb r9
  replace r10 := pw_cell_below hb r10
  replace r11 := pw_cell_below hb r11
  clear hb
  cases b0 with
  | false =>
    go_wp2_with fail
    refine (XLive17.live_walk w2).mono ?_
    rintro e wl ⟨rfl, bl⟩
    go_wp2
    go_ret
    exact ⟨rfl, below_step HB bl⟩
  | true =>
    have hl30 := H0.out rfl
    obtain ⟨b1, hb1, hl1⟩ := refMayQ_f 200 l lat 14 (by omega) (by omega)
    have F1 := Aside0.mk hb1
    have H1 := Aside0.mk hl1
    clear hb1 hl1 F0 H0
    go_wp2_with fail
    refine (rmayk_im hi F1.out).mono ?_
    rintro e w3 ⟨rfl, hb⟩
    replace HB := below_step HB hb
    replace hM := hM.below hb
    replace hi := hi.below hb
    replace ht := ht.below hb
    replace hz := hz.below hb
    replace q0 := pw_cell_below hb q0
    replace q1 := pw_cell_below hb q1
    replace r0 := pw_cell_below hb r0
    replace r1 := pw_cell_below hb r1
    replace r2 := pw_cell_below hb r2
    replace r3 := pw_cell_below hb r3
    replace r4 := pw_cell_below hb r4
    replace r5 := pw_cell_below hb r5
    replace r6 := pw_cell_below hb r6
    replace r7 := pw_cell_below hb r7
    replace r8 := pw_cell_below hb r8
    replace r9 := pw_cell_below hb r9
    replace r10 := pw_cell_below hb r10
    replace r11 := pw_cell_below hb r11
    clear hb
    cases b1 with
    | false =>
      go_wp2_with fail
      refine (XLive17.live_walk w3).mono ?_
      rintro e wl ⟨rfl, bl⟩
      go_wp2
      go_ret
      exact ⟨rfl, below_step HB bl⟩
    | true =>
      have hl14 := (H1.out rfl).1
      clear F1 H1 hl30
      go_wp2_with fail
      refine (fewS_im ht F2.out).mono ?_
      rintro e w4 ⟨rfl, hb⟩
      replace HB := below_step HB hb
      replace hM := hM.below hb
      replace hi := hi.below hb
      replace ht := ht.below hb
      replace hz := hz.below hb
      replace q0 := pw_cell_below hb q0
      replace q1 := pw_cell_below hb q1
      replace r0 := pw_cell_below hb r0
      replace r1 := pw_cell_below hb r1
      replace r2 := pw_cell_below hb r2
      replace r3 := pw_cell_below hb r3
      replace r4 := pw_cell_below hb r4
      replace r5 := pw_cell_below hb r5
      replace r6 := pw_cell_below hb r6
      replace r7 := pw_cell_below hb r7
      replace r8 := pw_cell_below hb r8
      replace r9 := pw_cell_below hb r9
      replace r10 := pw_cell_below hb r10
      replace r11 := pw_cell_below hb r11
      clear hb
      cases b2 with
      | false =>
        go_wp2_with fail
        refine (XLive17.live_walk w4).mono ?_
        rintro e wl ⟨rfl, bl⟩
        go_wp2
        go_ret
        exact ⟨rfl, below_step HB bl⟩
      | true =>
        have ht40 := H2.out rfl
        clear F2 H2
        go_wp2_with fail
        refine (mayT_im ht F3.out).mono ?_
        rintro e w5 ⟨rfl, hb⟩
        replace HB := below_step HB hb
        replace hM := hM.below hb
        replace hi := hi.below hb
        replace ht := ht.below hb
        replace hz := hz.below hb
        replace q0 := pw_cell_below hb q0
        replace q1 := pw_cell_below hb q1
        replace r0 := pw_cell_below hb r0
        replace r1 := pw_cell_below hb r1
        replace r2 := pw_cell_below hb r2
        replace r3 := pw_cell_below hb r3
        replace r4 := pw_cell_below hb r4
        replace r5 := pw_cell_below hb r5
        replace r6 := pw_cell_below hb r6
        replace r7 := pw_cell_below hb r7
        replace r8 := pw_cell_below hb r8
        replace r9 := pw_cell_below hb r9
        replace r10 := pw_cell_below hb r10
        replace r11 := pw_cell_below hb r11
        clear hb
        cases b3 with
        | false =>
          go_wp2_with fail
          refine (XLive17.live_walk w5).mono ?_
          rintro e wl ⟨rfl, bl⟩
          go_wp2
          go_ret
          exact ⟨rfl, below_step HB bl⟩
        | true =>
          have hsrt := Aside0.mk (H3.out rfl).2
          clear F3 H3
          go_wp2_with fail
          refine (changes_im hz F4.out).mono ?_
          rintro e w6 ⟨rfl, hb⟩
          replace HB := below_step HB hb
          replace hM := hM.below hb
          replace hi := hi.below hb
          replace ht := ht.below hb
          replace hz := hz.below hb
          replace q0 := pw_cell_below hb q0
          replace q1 := pw_cell_below hb q1
          replace r0 := pw_cell_below hb r0
          replace r1 := pw_cell_below hb r1
          replace r2 := pw_cell_below hb r2
          replace r3 := pw_cell_below hb r3
          replace r4 := pw_cell_below hb r4
          replace r5 := pw_cell_below hb r5
          replace r6 := pw_cell_below hb r6
          replace r7 := pw_cell_below hb r7
          replace r8 := pw_cell_below hb r8
          replace r9 := pw_cell_below hb r9
          replace r10 := pw_cell_below hb r10
          replace r11 := pw_cell_below hb r11
          clear hb
          cases b4 with
          | false =>
            go_wp2_with fail
            refine (XLive17.live_walk w6).mono ?_
            rintro e wl ⟨rfl, bl⟩
            go_wp2
            go_ret
            exact ⟨rfl, below_step HB bl⟩
          | true =>
            clear F4
            go_wp2_with fail
            refine (rollcallref17_One.calls 200 xn xb x1 x2 x3 xs b5 _ F5.out).mono ?_
            rintro e w7 ⟨rfl, hb⟩
            replace HB := below_step HB hb
            replace hM := hM.below hb
            replace hi := hi.below hb
            replace ht := ht.below hb
            replace hz := hz.below hb
            replace q0 := pw_cell_below hb q0
            replace q1 := pw_cell_below hb q1
            replace r0 := pw_cell_below hb r0
            replace r1 := pw_cell_below hb r1
            replace r2 := pw_cell_below hb r2
            replace r3 := pw_cell_below hb r3
            replace r4 := pw_cell_below hb r4
            replace r5 := pw_cell_below hb r5
            replace r6 := pw_cell_below hb r6
            replace r7 := pw_cell_below hb r7
            replace r8 := pw_cell_below hb r8
            replace r9 := pw_cell_below hb r9
            replace r10 := pw_cell_below hb r10
            replace r11 := pw_cell_below hb r11
            clear hb
            cases b5 with
            | false =>
              go_wp2_with fail
              refine (XLive17.live_walk w7).mono ?_
              rintro e wl ⟨rfl, bl⟩
              go_wp2
              go_ret
              exact ⟨rfl, below_step HB bl⟩
            | true =>
              clear F5
              go_wp2_with fail
              refine (rollcallref17_One.calls 200 yn yb y1 y2 y3 ys b6 _ F6.out).mono ?_
              rintro e w8 ⟨rfl, hb⟩
              replace HB := below_step HB hb
              replace hM := hM.below hb
              replace hi := hi.below hb
              replace ht := ht.below hb
              replace hz := hz.below hb
              replace q0 := pw_cell_below hb q0
              replace q1 := pw_cell_below hb q1
              replace r0 := pw_cell_below hb r0
              replace r1 := pw_cell_below hb r1
              replace r2 := pw_cell_below hb r2
              replace r3 := pw_cell_below hb r3
              replace r4 := pw_cell_below hb r4
              replace r5 := pw_cell_below hb r5
              replace r6 := pw_cell_below hb r6
              replace r7 := pw_cell_below hb r7
              replace r8 := pw_cell_below hb r8
              replace r9 := pw_cell_below hb r9
              replace r10 := pw_cell_below hb r10
              replace r11 := pw_cell_below hb r11
              clear hb
              cases b6 with
              | false =>
                go_wp2_with fail
                refine (XLive17.live_walk w8).mono ?_
                rintro e wl ⟨rfl, bl⟩
                go_wp2
                go_ret
                exact ⟨rfl, below_step HB bl⟩
              | true =>
                clear F6 hz
                have hpa := push_f l lat (⟨xn, xb, ⟨x1, x2, x3, xs⟩⟩ : Ch) 16 (by omega)
                have hpb := push_f l lat (⟨yn, yb, ⟨y1, y2, y3, ys⟩⟩ : Ch) 16 (by omega)
                have hla := PU_len l lat (⟨xn, xb, ⟨x1, x2, x3, xs⟩⟩ : Ch) 16
                have hlb := PU_len l lat (⟨yn, yb, ⟨y1, y2, y3, ys⟩⟩ : Ch) 16
                have htw := push_twice l lat (⟨xn, xb, ⟨x1, x2, x3, xs⟩⟩ : Ch) (by omega)
                have hln := push_len l lat (⟨xn, xb, ⟨x1, x2, x3, xs⟩⟩ : Ch) (⟨yn, yb, ⟨y1, y2, y3, ys⟩⟩ : Ch) (by omega)
                have hlt : lat = true → PU l lat (⟨xn, xb, ⟨x1, x2, x3, xs⟩⟩ : Ch) 16 = (l, true) ∧ PU l lat (⟨yn, yb, ⟨y1, y2, y3, ys⟩⟩ : Ch) 16 = (l, true) := fun e => by subst e; exact ⟨PU_lat _ _ _, PU_lat _ _ _⟩
                have hov : xn ≠ yn → lat = false → overQ t (PU (PU l lat (⟨xn, xb, ⟨x1, x2, x3, xs⟩⟩ : Ch) 16).1 (PU l lat (⟨xn, xb, ⟨x1, x2, x3, xs⟩⟩ : Ch) 16).2 (⟨yn, yb, ⟨y1, y2, y3, ys⟩⟩ : Ch) 16).1 = overQ t (PU (PU l lat (⟨yn, yb, ⟨y1, y2, y3, ys⟩⟩ : Ch) 16).1 (PU l lat (⟨yn, yb, ⟨y1, y2, y3, ys⟩⟩ : Ch) 16).2 (⟨xn, xb, ⟨x1, x2, x3, xs⟩⟩ : Ch) 16).1 := fun hn e => by subst e; exact (push_two t l (⟨xn, xb, ⟨x1, x2, x3, xs⟩⟩ : Ch) (⟨yn, yb, ⟨y1, y2, y3, ys⟩⟩ : Ch) (by omega) hsrt.out hn).2
                rcases hqa : PU l lat (⟨xn, xb, ⟨x1, x2, x3, xs⟩⟩ : Ch) 16 with ⟨la, ba⟩
                rcases hqb : PU l lat (⟨yn, yb, ⟨y1, y2, y3, ys⟩⟩ : Ch) 16 with ⟨lb, bb⟩
                rw [hqa] at hpa hla htw hln hlt hov
                rw [hqb] at hpb hlb hln hlt hov
                have hla' : la.length ≤ l.length + 1 := hla
                have hlb' : lb.length ≤ l.length + 1 := hlb
                have hpaa := push_f la ba (⟨xn, xb, ⟨x1, x2, x3, xs⟩⟩ : Ch) 16 (by omega)
                have htw' : PU la ba (⟨xn, xb, ⟨x1, x2, x3, xs⟩⟩ : Ch) 16 = (la, ba) := htw
                rw [htw'] at hpaa
                have hpab := push_f la ba (⟨yn, yb, ⟨y1, y2, y3, ys⟩⟩ : Ch) 16 (by omega)
                have hpba := push_f lb bb (⟨xn, xb, ⟨x1, x2, x3, xs⟩⟩ : Ch) 16 (by omega)
                have hlab := PU_len la ba (⟨yn, yb, ⟨y1, y2, y3, ys⟩⟩ : Ch) 16
                have hlba := PU_len lb bb (⟨xn, xb, ⟨x1, x2, x3, xs⟩⟩ : Ch) 16
                have hlt' : lat = true → PU la ba (⟨yn, yb, ⟨y1, y2, y3, ys⟩⟩ : Ch) 16 = (l, true) ∧ PU lb bb (⟨xn, xb, ⟨x1, x2, x3, xs⟩⟩ : Ch) 16 = (l, true) := fun e => by obtain ⟨e1, e2⟩ := hlt e; cases e1; cases e2; exact ⟨PU_lat _ _ _, PU_lat _ _ _⟩
                rcases hqab : PU la ba (⟨yn, yb, ⟨y1, y2, y3, ys⟩⟩ : Ch) 16 with ⟨lab, bab⟩
                rcases hqba : PU lb bb (⟨xn, xb, ⟨x1, x2, x3, xs⟩⟩ : Ch) 16 with ⟨lba, bba⟩
                replace hov : xn ≠ yn → lat = false → overQ t (PU la ba (⟨yn, yb, ⟨y1, y2, y3, ys⟩⟩ : Ch) 16).1 = overQ t (PU lb bb (⟨xn, xb, ⟨x1, x2, x3, xs⟩⟩ : Ch) 16).1 := hov
                replace hln : (PU la ba (⟨yn, yb, ⟨y1, y2, y3, ys⟩⟩ : Ch) 16).1.length = (PU lb bb (⟨xn, xb, ⟨x1, x2, x3, xs⟩⟩ : Ch) 16).1.length := hln
                rw [hqab, hqba] at hov hln hlt'
                rw [hqab] at hpab hlab
                rw [hqba] at hpba hlba
                replace hln : lba.length = lab.length := hln.symm
                replace hov : xn ≠ yn → lat = false → overQ t lab = overQ t lba := hov
                have hlab' : lab.length ≤ la.length + 1 := hlab
                have hlba' : lba.length ≤ lb.length + 1 := hlba
                have hsa := same_f 200 la ba (by omega) (by omega)
                have hsq := same_f 200 l lat (by omega) (by omega)
                have ho1 := over_b 200 t lab bab (by omega) (by omega) (by omega)
                have ho2 := over_b 200 t lba bba (by omega) (by omega) (by omega)
                have hss := sameS_f 200 (overQ t lab) (by have := overQ_len lab t; omega) (by have := overQ_len lab t; omega)
                have P0 := Aside0.mk hpa
                have P1 := Aside0.mk hpb
                have P2 := Aside0.mk hpaa
                have P3 := Aside0.mk hpab
                have P4 := Aside0.mk hpba
                have P5 := Aside0.mk hsa
                have P6 := Aside0.mk hsq
                have P7 := Aside0.mk ho1
                have P8 := Aside0.mk ho2
                have P9 := Aside0.mk hss
                have P10 := Aside0.mk hov
                have P11 := Aside0.mk hlt'
                have HL := Aside0.mk hln
                clear hpa hpb hpaa hpab hpba hsa hsq ho1 ho2 hss hov hlt' hlt hln hla hlb hla' hlb' hlab hlba hlab' hlba' htw htw' hqa hqb hqab hqba hl14 ht40 hsrt
                go_wp2_with fail
                refine (push_im hi la.length P0.out rfl).mono ?_
                rintro e w9 ⟨A9, d9, rfl, hia, hb⟩
                replace HB := below_step HB hb
                replace hM := hM.below hb
                replace hi := hi.below hb
                replace ht := ht.below hb
                replace q0 := pw_cell_below hb q0
                replace q1 := pw_cell_below hb q1
                replace r0 := pw_cell_below hb r0
                replace r1 := pw_cell_below hb r1
                replace r2 := pw_cell_below hb r2
                replace r3 := pw_cell_below hb r3
                replace r4 := pw_cell_below hb r4
                replace r5 := pw_cell_below hb r5
                replace r6 := pw_cell_below hb r6
                replace r7 := pw_cell_below hb r7
                replace r8 := pw_cell_below hb r8
                replace r9 := pw_cell_below hb r9
                replace r10 := pw_cell_below hb r10
                replace r11 := pw_cell_below hb r11
                clear hb
                go_upto_region 4 with (fail)
                generalize hg : World.alloc _ _ = w10
                obtain ⟨hB', hM', hb⟩ := Mem.new hg HB hM
                clear HB hM hg
                have HB := hB'
                have hM := hM'
                clear hB' hM'
                replace hi := hi.below hb
                replace ht := ht.below hb
                replace hia := hia.below hb
                replace q0 := pw_cell_below hb q0
                replace q1 := pw_cell_below hb q1
                replace r0 := pw_cell_below hb r0
                replace r1 := pw_cell_below hb r1
                replace r2 := pw_cell_below hb r2
                replace r3 := pw_cell_below hb r3
                replace r4 := pw_cell_below hb r4
                replace r5 := pw_cell_below hb r5
                replace r6 := pw_cell_below hb r6
                replace r7 := pw_cell_below hb r7
                replace r8 := pw_cell_below hb r8
                replace r9 := pw_cell_below hb r9
                replace r10 := pw_cell_below hb r10
                replace r11 := pw_cell_below hb r11
                clear hb
                generalize w9.heap.size = p7 at hM ⊢
                have s0 := hM.cell 0 0 rfl rfl
                have s1 := hM.cell 0 1 rfl rfl
                go_wp2_with fail
                refine (push_im hia lab.length P3.out rfl).mono ?_
                rintro e w11 ⟨A11, d11, rfl, hiab, hb⟩
                clear s0 s1
                replace HB := below_step HB hb
                replace hM := hM.below hb
                replace hi := hi.below hb
                replace ht := ht.below hb
                replace hia := hia.below hb
                replace q0 := pw_cell_below hb q0
                replace q1 := pw_cell_below hb q1
                replace r0 := pw_cell_below hb r0
                replace r1 := pw_cell_below hb r1
                replace r2 := pw_cell_below hb r2
                replace r3 := pw_cell_below hb r3
                replace r4 := pw_cell_below hb r4
                replace r5 := pw_cell_below hb r5
                replace r6 := pw_cell_below hb r6
                replace r7 := pw_cell_below hb r7
                replace r8 := pw_cell_below hb r8
                replace r9 := pw_cell_below hb r9
                replace r10 := pw_cell_below hb r10
                replace r11 := pw_cell_below hb r11
                clear hb
                go_upto_region 5 with (fail)
                generalize hg : World.alloc _ _ = w12
                obtain ⟨hB', hM', hb⟩ := Mem.new hg HB hM
                clear HB hM hg
                have HB := hB'
                have hM := hM'
                clear hB' hM'
                replace hi := hi.below hb
                replace ht := ht.below hb
                replace hia := hia.below hb
                replace hiab := hiab.below hb
                replace q0 := pw_cell_below hb q0
                replace q1 := pw_cell_below hb q1
                replace r0 := pw_cell_below hb r0
                replace r1 := pw_cell_below hb r1
                replace r2 := pw_cell_below hb r2
                replace r3 := pw_cell_below hb r3
                replace r4 := pw_cell_below hb r4
                replace r5 := pw_cell_below hb r5
                replace r6 := pw_cell_below hb r6
                replace r7 := pw_cell_below hb r7
                replace r8 := pw_cell_below hb r8
                replace r9 := pw_cell_below hb r9
                replace r10 := pw_cell_below hb r10
                replace r11 := pw_cell_below hb r11
                clear hb
                generalize w11.heap.size = p8 at hM ⊢
                have s0 := hM.cell 1 0 rfl rfl
                have s1 := hM.cell 1 1 rfl rfl
                have SS : ∀ w' : World, Below w12.heap.size w12 w' → w'.cell? ⟨p3, 0, none⟩ = some (.slice A0 l.length c0) ∧ w'.cell? ⟨p3, 1, none⟩ = some (.bool lat) ∧ w'.cell? ⟨p7, 0, none⟩ = some (.slice A9 la.length d9) ∧ w'.cell? ⟨p7, 1, none⟩ = some (.bool ba) ∧ w'.cell? ⟨p5, 0, none⟩ = some (.string xn) ∧ w'.cell? ⟨p5, 1, none⟩ = some (.bool xb) ∧ w'.cell? ⟨p5, 2, none⟩ = some (.int .i64 x1) ∧ w'.cell? ⟨p5, 3, none⟩ = some (.int .i64 x2) ∧ w'.cell? ⟨p5, 4, none⟩ = some (.int .i64 x3) ∧ w'.cell? ⟨p5, 5, none⟩ = some (.string xs) ∧ w'.cell? ⟨p5, 6, none⟩ = some (.string yn) ∧ w'.cell? ⟨p5, 7, none⟩ = some (.bool yb) ∧ w'.cell? ⟨p5, 8, none⟩ = some (.int .i64 y1) ∧ w'.cell? ⟨p5, 9, none⟩ = some (.int .i64 y2) ∧ w'.cell? ⟨p5, 10, none⟩ = some (.int .i64 y3) ∧ w'.cell? ⟨p5, 11, none⟩ = some (.string ys) := fun w' hb => ⟨pw_cell_below hb q0, pw_cell_below hb q1, pw_cell_below hb s0, pw_cell_below hb s1, pw_cell_below hb r0, pw_cell_below hb r1, pw_cell_below hb r2, pw_cell_below hb r3, pw_cell_below hb r4, pw_cell_below hb r5, pw_cell_below hb r6, pw_cell_below hb r7, pw_cell_below hb r8, pw_cell_below hb r9, pw_cell_below hb r10, pw_cell_below hb r11⟩
                clear q0 q1 s0 s1 r0 r1 r2 r3 r4 r5 r6 r7 r8 r9 r10 r11
                go_cut [9] (fun s9 wx => ∃ p v, s9 = .pointer (some ⟨p, 0, none⟩) ∧ wx.heap[p]? = some (.cells #[v, .bool bba] 24 (0, 0)) ∧ Im kCh wx v lba ∧ Below w12.heap.size w12 wx)
                case first =>
                  go_region_held3 (fun w' => w'.cell? ⟨p3, 0, none⟩ = some (.slice A0 l.length c0) ∧ w'.cell? ⟨p3, 1, none⟩ = some (.bool lat) ∧ w'.cell? ⟨p7, 0, none⟩ = some (.slice A9 la.length d9) ∧ w'.cell? ⟨p7, 1, none⟩ = some (.bool ba) ∧ w'.cell? ⟨p5, 0, none⟩ = some (.string xn) ∧ w'.cell? ⟨p5, 1, none⟩ = some (.bool xb) ∧ w'.cell? ⟨p5, 2, none⟩ = some (.int .i64 x1) ∧ w'.cell? ⟨p5, 3, none⟩ = some (.int .i64 x2) ∧ w'.cell? ⟨p5, 4, none⟩ = some (.int .i64 x3) ∧ w'.cell? ⟨p5, 5, none⟩ = some (.string xs) ∧ w'.cell? ⟨p5, 6, none⟩ = some (.string yn) ∧ w'.cell? ⟨p5, 7, none⟩ = some (.bool yb) ∧ w'.cell? ⟨p5, 8, none⟩ = some (.int .i64 y1) ∧ w'.cell? ⟨p5, 9, none⟩ = some (.int .i64 y2) ∧ w'.cell? ⟨p5, 10, none⟩ = some (.int .i64 y3) ∧ w'.cell? ⟨p5, 11, none⟩ = some (.string ys)) (exact SS _ (by repeat (first | assumption | apply below_alloc | apply below_drew1 | refine below_set ?_ (by first | exact hb2.size | exact hb1.size | exact Nat.le_refl _) | exact Below.refl _ _))) (first | (go_at_call 26; (with_reducible refine (push_im (hib.below ?hq) (r1 := lba) (r2 := bba) lab.length P4.out HL.out).mono ?_); (case hq => repeat (first | assumption | apply below_alloc | apply below_drew1 | exact Below.refl _ _)); rintro e x2 ⟨A15, d15, rfl, hiba, hb⟩; have hb2 := below_step (show Below w12.heap.size w12 _ from (by repeat (first | assumption | apply below_alloc | apply below_drew1 | refine below_set ?_ (by first | exact hb2.size | exact hb1.size | exact Nat.le_refl _) | exact Below.refl _ _))) hb; (first | replace T5 := blk_below T5 hb | have T5 := blk_below (heap_alloc_new _ _) hb | have T5 := blk_below (new_drew _ _) hb | skip); (try rw [show w12.drew.heap.size = w12.heap.size from rfl] at T5); (try (have k50 := (blk_cell T5 0).trans rfl; have k51 := (blk_cell T5 1).trans rfl; have z50 := blk_frozen T5 0; have z51 := blk_frozen T5 1)); clear hb) | (go_at_call 26; (with_reducible refine (push_im (hi.below ?hq) (r1 := lb) (r2 := bb) lb.length P1.out rfl).mono ?_); (case hq => repeat (first | assumption | apply below_alloc | apply below_drew1 | exact Below.refl _ _)); rintro e x1 ⟨A14, d14, rfl, hib, hb⟩; have hb1 := below_step (show Below w12.heap.size w12 _ from (by repeat (first | assumption | apply below_alloc | apply below_drew1 | refine below_set ?_ (by first | exact hb2.size | exact hb1.size | exact Nat.le_refl _) | exact Below.refl _ _))) hb; (first | replace T5 := blk_below T5 hb | have T5 := blk_below (heap_alloc_new _ _) hb | have T5 := blk_below (new_drew _ _) hb | skip); (try rw [show w12.drew.heap.size = w12.heap.size from rfl] at T5); (try (have k50 := (blk_cell T5 0).trans rfl; have k51 := (blk_cell T5 1).trans rfl; have z50 := blk_frozen T5 0; have z51 := blk_frozen T5 1)); clear hb))
                  all_goals (go_wp2_with fail; go_meet; first | exact ⟨x2.heap.size, _, rfl, heap_alloc_new _ _, hiba.below (below_alloc (Below.refl _ _) _), below_alloc hb2 _⟩ | exact ⟨_, _, rfl, blk_set (blk_set T5 0 _) 1 _, im_far (im_far hiba T5 0 _) (blk_set T5 0 _) 1 _, below_set (below_set hb2 (by first | exact hb2.size | exact hb1.size | exact Nat.le_refl _)) (by first | exact hb2.size | exact hb1.size | exact Nat.le_refl _)⟩)
                case rest =>
                  obtain ⟨p9, v, rfl, T9, hiba, hb⟩ := hcut
                  rename World => w15
                  obtain ⟨A15, d15, rfl⟩ : ∃ A c, v = .slice A lab.length c := by obtain ⟨A, c, e, _⟩ := hiba.slice; exact ⟨A, c, by rw [e, HL.out]⟩
                  replace HB := below_step HB hb
                  replace hM := (hM.below hb).cons T9
                  replace hi := hi.below hb
                  replace ht := ht.below hb
                  replace hia := hia.below hb
                  replace hiab := hiab.below hb
                  replace SS : ∀ w' : World, Below w15.heap.size w15 w' → w'.cell? ⟨p3, 0, none⟩ = some (.slice A0 l.length c0) ∧ w'.cell? ⟨p3, 1, none⟩ = some (.bool lat) ∧ w'.cell? ⟨p7, 0, none⟩ = some (.slice A9 la.length d9) ∧ w'.cell? ⟨p7, 1, none⟩ = some (.bool ba) ∧ w'.cell? ⟨p5, 0, none⟩ = some (.string xn) ∧ w'.cell? ⟨p5, 1, none⟩ = some (.bool xb) ∧ w'.cell? ⟨p5, 2, none⟩ = some (.int .i64 x1) ∧ w'.cell? ⟨p5, 3, none⟩ = some (.int .i64 x2) ∧ w'.cell? ⟨p5, 4, none⟩ = some (.int .i64 x3) ∧ w'.cell? ⟨p5, 5, none⟩ = some (.string xs) ∧ w'.cell? ⟨p5, 6, none⟩ = some (.string yn) ∧ w'.cell? ⟨p5, 7, none⟩ = some (.bool yb) ∧ w'.cell? ⟨p5, 8, none⟩ = some (.int .i64 y1) ∧ w'.cell? ⟨p5, 9, none⟩ = some (.int .i64 y2) ∧ w'.cell? ⟨p5, 10, none⟩ = some (.int .i64 y3) ∧ w'.cell? ⟨p5, 11, none⟩ = some (.string ys) := fun w' hb' => SS w' (below_step hb hb')
                  clear hb T9
                  go_wp2_with fail
                  go_region_held3 (fun w' => w'.cell? ⟨p3, 0, none⟩ = some (.slice A0 l.length c0) ∧ w'.cell? ⟨p3, 1, none⟩ = some (.bool lat) ∧ w'.cell? ⟨p7, 0, none⟩ = some (.slice A9 la.length d9) ∧ w'.cell? ⟨p7, 1, none⟩ = some (.bool ba) ∧ w'.cell? ⟨p5, 0, none⟩ = some (.string xn) ∧ w'.cell? ⟨p5, 1, none⟩ = some (.bool xb) ∧ w'.cell? ⟨p5, 2, none⟩ = some (.int .i64 x1) ∧ w'.cell? ⟨p5, 3, none⟩ = some (.int .i64 x2) ∧ w'.cell? ⟨p5, 4, none⟩ = some (.int .i64 x3) ∧ w'.cell? ⟨p5, 5, none⟩ = some (.string xs) ∧ w'.cell? ⟨p5, 6, none⟩ = some (.string yn) ∧ w'.cell? ⟨p5, 7, none⟩ = some (.bool yb) ∧ w'.cell? ⟨p5, 8, none⟩ = some (.int .i64 y1) ∧ w'.cell? ⟨p5, 9, none⟩ = some (.int .i64 y2) ∧ w'.cell? ⟨p5, 10, none⟩ = some (.int .i64 y3) ∧ w'.cell? ⟨p5, 11, none⟩ = some (.string ys)) (exact SS _ (by repeat (first | assumption | apply below_alloc | apply below_drew1 | exact Below.refl _ _))) (first | (go_at_call 19; (with_reducible refine (samek_im (hiaa.below (by first | assumption | exact below_drew1 (Below.refl _ _) | exact Below.refl _ _)) (hia.below ?hq) P5.out).mono ?_); (all_goals first | (case hq => repeat (first | assumption | apply below_alloc | apply below_drew1 | exact Below.refl _ _)) | skip); rintro e x4 ⟨rfl, hb⟩; have hb4 := below_step (show Below w15.heap.size w15 _ from (by repeat (first | assumption | apply below_alloc | apply below_drew1 | exact Below.refl _ _))) hb; clear hb) | (go_at_call 26; (with_reducible refine (push_im (hia.below ?hq) (r1 := la) (r2 := ba) la.length P2.out rfl).mono ?_); (all_goals first | (case hq => repeat (first | assumption | apply below_alloc | apply below_drew1 | exact Below.refl _ _)) | skip); rintro e x3 ⟨A16, d16, rfl, hiaa, hb⟩; have hb3 := below_step (show Below w15.heap.size w15 _ from (by repeat (first | assumption | apply below_alloc | apply below_drew1 | exact Below.refl _ _))) hb; clear hb))
                  clear SS
                  replace HB := below_step HB hb4
                  replace hM := hM.below hb4
                  replace hi := hi.below hb4
                  replace ht := ht.below hb4
                  replace hia := hia.below hb4
                  replace hiab := hiab.below hb4
                  replace hiba := hiba.below hb4
                  clear hiaa hia hb3 hb4
                  have q0 := hM.cell 4 0 rfl rfl
                  have q1 := hM.cell 4 1 rfl rfl
                  have r0 := hM.cell 3 0 rfl rfl
                  have r1 := hM.cell 3 1 rfl rfl
                  have r2 := hM.cell 3 2 rfl rfl
                  have r3 := hM.cell 3 3 rfl rfl
                  have r4 := hM.cell 3 4 rfl rfl
                  have r5 := hM.cell 3 5 rfl rfl
                  have r6 := hM.cell 3 6 rfl rfl
                  have r7 := hM.cell 3 7 rfl rfl
                  have r8 := hM.cell 3 8 rfl rfl
                  have r9 := hM.cell 3 9 rfl rfl
                  have r10 := hM.cell 3 10 rfl rfl
                  have r11 := hM.cell 3 11 rfl rfl
                  have s0 := hM.cell 1 0 rfl rfl
                  have s1 := hM.cell 1 1 rfl rfl
                  have u0 := hM.cell 0 0 rfl rfl
                  have u1 := hM.cell 0 1 rfl rfl
                  cases lat with
                  | true =>
                    obtain ⟨e1, e2⟩ := P11.out rfl
                    cases e1
                    cases e2
                    go_wp2_with fail
                    refine (samek_im hiab hi P6.out).mono ?_
                    rintro e x5 ⟨rfl, hb⟩
                    replace HB := below_step HB hb
                    replace hi := hi.below hb
                    replace hiba := hiba.below hb
                    replace q0 := pw_cell_below hb q0
                    replace q1 := pw_cell_below hb q1
                    replace u0 := pw_cell_below hb u0
                    replace u1 := pw_cell_below hb u1
                    clear hb
                    go_wp2_with fail
                    refine (samek_im hiba hi P6.out).mono ?_
                    rintro e x6 ⟨rfl, hb⟩
                    replace HB := below_step HB hb
                    go_wp2_with fail
                    refine (XLive17.live_walk x6).mono ?_
                    rintro e wl ⟨rfl, bl⟩
                    go_wp2
                    go_ret
                    exact ⟨rfl, below_step HB bl⟩
                  | false =>
                    by_cases hn : xn = yn
                    · subst hn
                      go_wp2_with fail
                      refine (XLive17.live_walk x4).mono ?_
                      rintro e wl ⟨rfl, bl⟩
                      go_wp2
                      go_ret
                      exact ⟨rfl, below_step HB bl⟩
                    · have hov := P10.out hn rfl
                      have SS : ∀ w' : World, Below x4.heap.size x4 w' → w'.cell? ⟨p8, 0, none⟩ = some (.slice A11 lab.length d11) ∧ w'.cell? ⟨p8, 1, none⟩ = some (.bool bab) ∧ w'.cell? ⟨p9, 0, none⟩ = some (.slice A15 lab.length d15) ∧ w'.cell? ⟨p9, 1, none⟩ = some (.bool bba) := fun w' hb => ⟨pw_cell_below hb s0, pw_cell_below hb s1, pw_cell_below hb u0, pw_cell_below hb u1⟩
                      have hn' : (xn.toList == yn.toList) = false := beq_eq_false_iff_ne.2 fun e => hn (XGen.toList_inj.1 e)
                      clear s0 s1 u0 u1 q0 hM
                      have P8' := P8.out
                      rw [← hov] at P8'
                      replace P8 := Aside0.mk P8'
                      clear P8' hov
                      go_wp2_with fail
                      go_region_held3 (fun w' => w'.cell? ⟨p8, 0, none⟩ = some (.slice A11 lab.length d11) ∧ w'.cell? ⟨p8, 1, none⟩ = some (.bool bab) ∧ w'.cell? ⟨p9, 0, none⟩ = some (.slice A15 lab.length d15) ∧ w'.cell? ⟨p9, 1, none⟩ = some (.bool bba)) (exact SS _ (by repeat (first | assumption | apply below_alloc | apply below_drew1 | exact Below.refl _ _))) (first | (go_at_call 22; (with_reducible refine (sameS_im (hva.below (by first | assumption | exact below_drew1 (Below.refl _ _) | exact Below.refl _ _)) (hvb.below (by first | assumption | exact below_drew1 (Below.refl _ _) | exact Below.refl _ _)) P9.out).mono ?_); (all_goals first | (case hq => repeat (first | assumption | apply below_alloc | apply below_drew1 | exact Below.refl _ _)) | skip); rintro e x8 ⟨rfl, hb⟩; have hb8 := below_step (show Below x4.heap.size x4 _ from (by repeat (first | assumption | apply below_alloc | apply below_drew1 | exact Below.refl _ _))) hb; clear hb) | (go_at_call 23; (with_reducible refine (overk_im (ht.below ?hq) (hiba.below (by first | assumption | exact below_drew1 (Below.refl _ _) | exact Below.refl _ _)) P8.out).mono ?_); (all_goals first | (case hq => repeat (first | assumption | apply below_alloc | apply below_drew1 | exact Below.refl _ _)) | skip); rintro e x7 ⟨vb, rfl, hvb, hb⟩; have hb7 := below_step (show Below x4.heap.size x4 _ from (by repeat (first | assumption | apply below_alloc | apply below_drew1 | exact Below.refl _ _))) hb; (try replace hva := Im.below hva hb); clear hb) | (go_at_call 23; (with_reducible refine (overk_im (ht.below ?hq) (hiab.below (by first | assumption | exact below_drew1 (Below.refl _ _) | exact Below.refl _ _)) P7.out).mono ?_); (all_goals first | (case hq => repeat (first | assumption | apply below_alloc | apply below_drew1 | exact Below.refl _ _)) | skip); rintro e x6 ⟨va, rfl, hva, hb⟩; have hb6 := below_step (show Below x4.heap.size x4 _ from (by repeat (first | assumption | apply below_alloc | apply below_drew1 | exact Below.refl _ _))) hb; (try replace hvb := Im.below hvb hb); clear hb) | (go_at_call 10; (with_reducible refine (XLive17.live_walk _).mono ?_); (all_goals first | (case hq => repeat (first | assumption | apply below_alloc | apply below_drew1 | exact Below.refl _ _)) | skip); rintro e x9 ⟨rfl, hb⟩; have hb9 := below_step (show Below x4.heap.size x4 _ from (by repeat (first | assumption | apply below_alloc | apply below_drew1 | exact Below.refl _ _))) hb; clear hb))
                      go_wp2
                      go_ret
                      exact ⟨rfl, below_step HB hb9⟩
end Go.Proofs.Ythcmelchgnekpaa.XHand
