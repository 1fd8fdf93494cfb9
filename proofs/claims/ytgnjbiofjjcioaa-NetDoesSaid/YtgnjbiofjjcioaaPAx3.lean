-- Written by a program of this session (wip/tools/xprint.py), which drives the kit's print.
import Derived.Test.YtgnjbiofjjcioaaPAx0
import Derived.Test.YtgnjbiofjjcioaaPAx1
import Derived.Test.YtgnjbiofjjcioaaPAx2
namespace Go.Proofs.Ytgnjbiofjjcioaa.PA
open Go.RowKit Go.Proofs.YtgnjbiofjjcioaaW.PrintWords Go.Proofs.YtgnjbiofjjcioaaW.PrintLast Go.Proofs.YtgnjbiofjjcioaaW.PrintMore
attribute [local go_sem] max2_int min2_int max_two min_two max_three min_three max_four min_four   -- for this text's walks alone
set_option linter.unusedVariables false
set_option linter.unusedSimpArgs false

/-! ### rollcalllaw22_NetDoes: function 3 -/
def rollcalllaw22_NetDoes.f (k : Nat) (l0 : List ByteArray) (a1_0 : Int) (a1_1 : Int) (a1_2 : ByteArray) (a1_3 : ByteArray) (a1_4 : Int) (a1_5 : Int) (a1_6 : Int) (a1_7 : Int) (a1_8 : ByteArray) (a1_9 : ByteArray) (a1_10 : Int) (a1_11 : Int) (a1_12 : ByteArray) (a2 : Int) : Option (Bool) := (rollcallref03_Few.f k l0 510 100).bind fun t260 => (if t260 = true then ((net_Act.f l0 a1_0 a1_1 a1_2 a1_3 a1_4 a1_5 a1_6 a1_7 a1_8 a1_9 a1_10 a1_11 a1_12).bind fun bt262 => ((rollcallref22_Act.f k l0 a1_0 a1_1 a1_2 a1_3 a1_4 a1_5 a1_6 a1_7 a1_8 a1_9 a1_10 a1_11 a1_12).bind fun bt267 => ((net_Corrupt.f l0 a1_10 a2 a1_11).bind fun bt272 => ((rollcallref22_Corrupt.f l0 a1_10 a2 a1_11).bind fun bt276 => ((rollcallref03_Same.f k bt262.1 bt267.1).bind fun t280 => (if t280 = true then (if bt262.2.1.toList = bt267.2.1.toList then (if bt262.2.2 = bt267.2.2 then ((rollcallref03_Same.f k bt272.1 bt276.1).bind fun t281 => (if t281 = true then (if bt272.2 = bt276.2 then ((rollcalllaw22_live.f k).bind fun t282 => (some t282)) else (some false)) else (some false))) else (some false)) else (some false)) else (some false))))))) else ((rollcalllaw22_live.f k).bind fun t261 => (some t261)))
theorem rollcalllaw22_NetDoes.mono : ∀ a0 a1 a2 a3 a4 a5 a6 a7 a8 a9 a10 a11 a12 a13 a14 k, LeO (rollcalllaw22_NetDoes.f k a0 a1 a2 a3 a4 a5 a6 a7 a8 a9 a10 a11 a12 a13 a14) (rollcalllaw22_NetDoes.f (k + 1) a0 a1 a2 a3 a4 a5 a6 a7 a8 a9 a10 a11 a12 a13 a14) := by
  intro a0 a1 a2 a3 a4 a5 a6 a7 a8 a9 a10 a11 a12 a13 a14 k
  unfold rollcalllaw22_NetDoes.f
  repeat' first
      | (with_reducible exact rollcalllaw22_live.mono _)
      | (with_reducible exact rollcallref03_Few.mono _ _ _ _)
      | (with_reducible exact rollcallref03_Same.mono _ _ _)
      | (with_reducible exact rollcallref22_Act.mono _ _ _ _ _ _ _ _ _ _ _ _ _ _ _)
      | (with_reducible exact LeO.refl _)
      | (with_reducible exact LeO.none _)
      | (with_reducible refine LeO.ite ?_ ?_)
      | (with_reducible refine LeO.bind ?_ (fun _ => ?_))
      | exact rollcalllaw22_live.mono _
      | exact rollcallref03_Few.mono _ _ _ _
      | exact rollcallref03_Same.mono _ _ _
      | exact rollcallref22_Act.mono _ _ _ _ _ _ _ _ _ _ _ _ _ _ _
      | exact LeO.none _
      | refine LeO.ite ?_ ?_
      | refine LeO.bind ?_ (fun _ => ?_)
set_option maxHeartbeats 8000000 in
set_option maxRecDepth 100000 in
theorem rollcalllaw22_NetDoes.calls (k : Nat) (A0 : Option Addr) (c0 : Nat) (l0 : List ByteArray) (a1_0 : Int) (a1_1 : Int) (a1_2 : ByteArray) (a1_3 : ByteArray) (a1_4 : Int) (a1_5 : Int) (a1_6 : Int) (a1_7 : Int) (a1_8 : ByteArray) (a1_9 : ByteArray) (a1_10 : Int) (a1_11 : Int) (a1_12 : ByteArray) (a2 : Int) (r : Bool) (hT_ : r = true) (w : World) (hr0 : Kd.C Kd.string w A0 l0.length l0) (hc0 : l0.length ≤ c0) (h : rollcalllaw22_NetDoes.f k l0 a1_0 a1_1 a1_2 a1_3 a1_4 a1_5 a1_6 a1_7 a1_8 a1_9 a1_10 a1_11 a1_12 a2 = some r) :
    Calls Try.prog 3 #[.slice A0 l0.length c0, .agg #[.int .i64 a1_0, .int .i64 a1_1, .string a1_2, .string a1_3, .int .i64 a1_4, .int .i64 a1_5, .int .i64 a1_6, .int .i64 a1_7, .string a1_8, .string a1_9, .int .i64 a1_10, .int .i64 a1_11, .string a1_12], .int .i64 a2] w fun e w' => e = .returned (.bool r) ∧ Below w.heap.size w w' := by
  have hu28 := Try.underlying28
  have HT := Aside0.mk hT_
  clear hT_
  have HR0 := Aside0.mk hr0
  have HC0 := Aside0.mk hc0
  clear hr0 hc0
  have HB := Aside0.mk (Below.refl w.heap.size w)
  have H : ((rollcallref03_Few.f k l0 510 100).bind fun t260 => (if t260 = true then ((net_Act.f l0 a1_0 a1_1 a1_2 a1_3 a1_4 a1_5 a1_6 a1_7 a1_8 a1_9 a1_10 a1_11 a1_12).bind fun bt262 => ((rollcallref22_Act.f k l0 a1_0 a1_1 a1_2 a1_3 a1_4 a1_5 a1_6 a1_7 a1_8 a1_9 a1_10 a1_11 a1_12).bind fun bt267 => ((net_Corrupt.f l0 a1_10 a2 a1_11).bind fun bt272 => ((rollcallref22_Corrupt.f l0 a1_10 a2 a1_11).bind fun bt276 => ((rollcallref03_Same.f k bt262.1 bt267.1).bind fun t280 => (if t280 = true then (if bt262.2.1.toList = bt267.2.1.toList then (if bt262.2.2 = bt267.2.2 then ((rollcallref03_Same.f k bt272.1 bt276.1).bind fun t281 => (if t281 = true then (if bt272.2 = bt276.2 then ((rollcalllaw22_live.f k).bind fun t282 => (some t282)) else (some false)) else (some false))) else (some false)) else (some false)) else (some false))))))) else ((rollcalllaw22_live.f k).bind fun t261 => (some t261)))) = some r := h
  clear h
  replace H := Option.bind_eq_some_iff.mp H
  obtain ⟨t260, A40, H⟩ := H
  replace H : (if t260 = true then ((net_Act.f l0 a1_0 a1_1 a1_2 a1_3 a1_4 a1_5 a1_6 a1_7 a1_8 a1_9 a1_10 a1_11 a1_12).bind fun bt262 => ((rollcallref22_Act.f k l0 a1_0 a1_1 a1_2 a1_3 a1_4 a1_5 a1_6 a1_7 a1_8 a1_9 a1_10 a1_11 a1_12).bind fun bt267 => ((net_Corrupt.f l0 a1_10 a2 a1_11).bind fun bt272 => ((rollcallref22_Corrupt.f l0 a1_10 a2 a1_11).bind fun bt276 => ((rollcallref03_Same.f k bt262.1 bt267.1).bind fun t280 => (if t280 = true then (if bt262.2.1.toList = bt267.2.1.toList then (if bt262.2.2 = bt267.2.2 then ((rollcallref03_Same.f k bt272.1 bt276.1).bind fun t281 => (if t281 = true then (if bt272.2 = bt276.2 then ((rollcalllaw22_live.f k).bind fun t282 => (some t282)) else (some false)) else (some false))) else (some false)) else (some false)) else (some false))))))) else ((rollcalllaw22_live.f k).bind fun t261 => (some t261))) = some r := H
  have A4 := Aside0.mk A40
  clear A40
  by_cases c5 : t260 = true
  · subst c5
    have H1 : ((net_Act.f l0 a1_0 a1_1 a1_2 a1_3 a1_4 a1_5 a1_6 a1_7 a1_8 a1_9 a1_10 a1_11 a1_12).bind fun bt262 => ((rollcallref22_Act.f k l0 a1_0 a1_1 a1_2 a1_3 a1_4 a1_5 a1_6 a1_7 a1_8 a1_9 a1_10 a1_11 a1_12).bind fun bt267 => ((net_Corrupt.f l0 a1_10 a2 a1_11).bind fun bt272 => ((rollcallref22_Corrupt.f l0 a1_10 a2 a1_11).bind fun bt276 => ((rollcallref03_Same.f k bt262.1 bt267.1).bind fun t280 => (if t280 = true then (if bt262.2.1.toList = bt267.2.1.toList then (if bt262.2.2 = bt267.2.2 then ((rollcallref03_Same.f k bt272.1 bt276.1).bind fun t281 => (if t281 = true then (if bt272.2 = bt276.2 then ((rollcalllaw22_live.f k).bind fun t282 => (some t282)) else (some false)) else (some false))) else (some false)) else (some false)) else (some false))))))) = some r := by rw [if_pos rfl] at H; exact H
    clear H
    have H := H1
    clear H1
    replace H := Option.bind_eq_some_iff.mp H
    obtain ⟨⟨t262, t265, t266⟩, A60, H⟩ := H
    replace H : ((rollcallref22_Act.f k l0 a1_0 a1_1 a1_2 a1_3 a1_4 a1_5 a1_6 a1_7 a1_8 a1_9 a1_10 a1_11 a1_12).bind fun bt267 => ((net_Corrupt.f l0 a1_10 a2 a1_11).bind fun bt272 => ((rollcallref22_Corrupt.f l0 a1_10 a2 a1_11).bind fun bt276 => ((rollcallref03_Same.f k t262 bt267.1).bind fun t280 => (if t280 = true then (if t265.toList = bt267.2.1.toList then (if t266 = bt267.2.2 then ((rollcallref03_Same.f k bt272.1 bt276.1).bind fun t281 => (if t281 = true then (if bt272.2 = bt276.2 then ((rollcalllaw22_live.f k).bind fun t282 => (some t282)) else (some false)) else (some false))) else (some false)) else (some false)) else (some false)))))) = some r := H
    have A6 := Aside0.mk A60
    clear A60
    replace H := Option.bind_eq_some_iff.mp H
    obtain ⟨⟨t267, t270, t271⟩, A70, H⟩ := H
    replace H : ((net_Corrupt.f l0 a1_10 a2 a1_11).bind fun bt272 => ((rollcallref22_Corrupt.f l0 a1_10 a2 a1_11).bind fun bt276 => ((rollcallref03_Same.f k t262 t267).bind fun t280 => (if t280 = true then (if t265.toList = t270.toList then (if t266 = t271 then ((rollcallref03_Same.f k bt272.1 bt276.1).bind fun t281 => (if t281 = true then (if bt272.2 = bt276.2 then ((rollcalllaw22_live.f k).bind fun t282 => (some t282)) else (some false)) else (some false))) else (some false)) else (some false)) else (some false))))) = some r := H
    have A7 := Aside0.mk A70
    clear A70
    replace H := Option.bind_eq_some_iff.mp H
    obtain ⟨⟨t272, t275⟩, A80, H⟩ := H
    replace H : ((rollcallref22_Corrupt.f l0 a1_10 a2 a1_11).bind fun bt276 => ((rollcallref03_Same.f k t262 t267).bind fun t280 => (if t280 = true then (if t265.toList = t270.toList then (if t266 = t271 then ((rollcallref03_Same.f k t272 bt276.1).bind fun t281 => (if t281 = true then (if t275 = bt276.2 then ((rollcalllaw22_live.f k).bind fun t282 => (some t282)) else (some false)) else (some false))) else (some false)) else (some false)) else (some false)))) = some r := H
    have A8 := Aside0.mk A80
    clear A80
    replace H := Option.bind_eq_some_iff.mp H
    obtain ⟨⟨t276, t279⟩, A90, H⟩ := H
    replace H : ((rollcallref03_Same.f k t262 t267).bind fun t280 => (if t280 = true then (if t265.toList = t270.toList then (if t266 = t271 then ((rollcallref03_Same.f k t272 t276).bind fun t281 => (if t281 = true then (if t275 = t279 then ((rollcalllaw22_live.f k).bind fun t282 => (some t282)) else (some false)) else (some false))) else (some false)) else (some false)) else (some false))) = some r := H
    have A9 := Aside0.mk A90
    clear A90
    replace H := Option.bind_eq_some_iff.mp H
    obtain ⟨t280, A100, H⟩ := H
    replace H : (if t280 = true then (if t265.toList = t270.toList then (if t266 = t271 then ((rollcallref03_Same.f k t272 t276).bind fun t281 => (if t281 = true then (if t275 = t279 then ((rollcalllaw22_live.f k).bind fun t282 => (some t282)) else (some false)) else (some false))) else (some false)) else (some false)) else (some false)) = some r := H
    have A10 := Aside0.mk A100
    clear A100
    by_cases c11 : t280 = true
    · subst c11
      have H1 : (if t265.toList = t270.toList then (if t266 = t271 then ((rollcallref03_Same.f k t272 t276).bind fun t281 => (if t281 = true then (if t275 = t279 then ((rollcalllaw22_live.f k).bind fun t282 => (some t282)) else (some false)) else (some false))) else (some false)) else (some false)) = some r := by rw [if_pos rfl] at H; exact H
      clear H
      have H := H1
      clear H1
      by_cases c12 : t265.toList = t270.toList
      · rw [if_pos c12] at H
        have c12b0 : (t265.toList == t270.toList) = true := beq_iff_eq.mpr c12
        have c12b1 : (t265.toList != t270.toList) = false := bne_eq_false_iff_eq.mpr c12
        clear c12
        by_cases c13 : t266 = t271
        · rw [if_pos c13] at H
          have c13b0 : (t266 == t271) = true := beq_iff_eq.mpr c13
          have c13b1 : (t266 != t271) = false := bne_eq_false_iff_eq.mpr c13
          clear c13
          replace H := Option.bind_eq_some_iff.mp H
          obtain ⟨t281, A140, H⟩ := H
          replace H : (if t281 = true then (if t275 = t279 then ((rollcalllaw22_live.f k).bind fun t282 => (some t282)) else (some false)) else (some false)) = some r := H
          have A14 := Aside0.mk A140
          clear A140
          by_cases c15 : t281 = true
          · subst c15
            have H1 : (if t275 = t279 then ((rollcalllaw22_live.f k).bind fun t282 => (some t282)) else (some false)) = some r := by rw [if_pos rfl] at H; exact H
            clear H
            have H := H1
            clear H1
            by_cases c16 : t275 = t279
            · rw [if_pos c16] at H
              have c16b0 : (t275 == t279) = true := beq_iff_eq.mpr c16
              have c16b1 : (t275 != t279) = false := bne_eq_false_iff_eq.mpr c16
              clear c16
              replace H := Option.bind_eq_some_iff.mp H
              obtain ⟨t282, A170, H⟩ := H
              replace H : (some t282) = some r := H
              have A17 := Aside0.mk A170
              clear A170
              obtain rfl := Option.some.inj H
              go_enter Try.func3, Try.ntmps3
              go_wp2_with (first | ((with_reducible refine gate_dst (N := 4) rfl ?_); refine box_event ?hg (N := 4) ?hd (cs := #[.int .i64 a1_0, .int .i64 a1_1, .string a1_2, .string a1_3, .int .i64 a1_4, .int .i64 a1_5, .int .i64 a1_6, .int .i64 a1_7, .string a1_8, .string a1_9, .int .i64 a1_10, .int .i64 a1_11, .string a1_12]) (t := 28) ?hr ?_; (case hd => rfl); (case hg => rfl); (case hr => first | (go_simp; done) | (go_simp; rfl)); intro gb259 hg w18 hbox hb; have n0_ := Aside0.mk (below_step (by repeat (first | (with_reducible first | exact HB.out | apply below_alloc | apply pw_below_drewN | apply below_drew1) | exact HB.out)) hb); have n1_ := Aside0.mk (hbox); have n2_ := Aside0.mk ((by rw [hg]; exact (below_size (by repeat (first | (with_reducible first | exact HB.out | apply below_alloc | apply pw_below_drewN | apply below_drew1) | exact HB.out))) : w.heap.size ≤ gb259)); have n3_ := Aside0.mk ((by rw [hg]; exact (below_size (by repeat (first | (with_reducible first | exact HB.out | apply below_alloc | apply pw_below_drewN | apply below_drew1) | exact HB.out))) : w.heap.size ≤ gb259)); clear HB; have HB := n0_; have BK259 := n1_; have GW259 := n2_; have GE259 := n3_; clear n0_ n1_ n2_ n3_; clear hb hbox hg) | ((with_reducible refine gate_callee (f := 8) rfl ?_); refine goesL_ (some 18) rfl rfl Try.func8 (by kernel_rfl) rfl #[.slice A0 l0.length c0, .int .i64 510, .int .i64 100] rfl (by (try simp only [List.map_toArray, List.map_cons, List.map_nil]); first | done | rfl | (simp only [List.length_drop, List.length_take]; rfl)) ?_; (with_reducible refine (rollcallref03_Few.calls k _ _ l0 510 100 true _ ?side1 ?side2 A4.out).mono ?_); (case side1 => repeat (first | exact (Kd.C_below HR0.out HB.out) | (with_reducible refine Kd.C_alloc ?_ _) | (with_reducible refine Kd.C_drewN ?_ _) | (with_reducible refine Kd.C_drew ?_))); (case side2 => exact HC0.out); rintro e w' ⟨rfl, ⟨nd, rfl⟩⟩; refine ⟨_, rfl, ?_⟩; have hcz19_0 : w18.cell? ⟨gb259, 0, none⟩ = some (.int .i64 a1_0) := (blk_cell BK259.out 0).trans rfl; have hcz19_1 : w18.cell? ⟨gb259, 1, none⟩ = some (.int .i64 a1_1) := (blk_cell BK259.out 1).trans rfl; have hcz19_2 : w18.cell? ⟨gb259, 2, none⟩ = some (.string a1_2) := (blk_cell BK259.out 2).trans rfl; have hcz19_3 : w18.cell? ⟨gb259, 3, none⟩ = some (.string a1_3) := (blk_cell BK259.out 3).trans rfl; have hcz19_4 : w18.cell? ⟨gb259, 4, none⟩ = some (.int .i64 a1_4) := (blk_cell BK259.out 4).trans rfl; have hcz19_5 : w18.cell? ⟨gb259, 5, none⟩ = some (.int .i64 a1_5) := (blk_cell BK259.out 5).trans rfl; have hcz19_6 : w18.cell? ⟨gb259, 6, none⟩ = some (.int .i64 a1_6) := (blk_cell BK259.out 6).trans rfl; have hcz19_7 : w18.cell? ⟨gb259, 7, none⟩ = some (.int .i64 a1_7) := (blk_cell BK259.out 7).trans rfl; have hcz19_8 : w18.cell? ⟨gb259, 8, none⟩ = some (.string a1_8) := (blk_cell BK259.out 8).trans rfl; have hcz19_9 : w18.cell? ⟨gb259, 9, none⟩ = some (.string a1_9) := (blk_cell BK259.out 9).trans rfl; have hcz19_10 : w18.cell? ⟨gb259, 10, none⟩ = some (.int .i64 a1_10) := (blk_cell BK259.out 10).trans rfl; have hcz19_11 : w18.cell? ⟨gb259, 11, none⟩ = some (.int .i64 a1_11) := (blk_cell BK259.out 11).trans rfl; have hcz19_12 : w18.cell? ⟨gb259, 12, none⟩ = some (.string a1_12) := (blk_cell BK259.out 12).trans rfl; have hfz19_0 := blk_frozen BK259.out 0; have hfz19_1 := blk_frozen BK259.out 1; have hfz19_2 := blk_frozen BK259.out 2; have hfz19_3 := blk_frozen BK259.out 3; have hfz19_4 := blk_frozen BK259.out 4; have hfz19_5 := blk_frozen BK259.out 5; have hfz19_6 := blk_frozen BK259.out 6; have hfz19_7 := blk_frozen BK259.out 7; have hfz19_8 := blk_frozen BK259.out 8; have hfz19_9 := blk_frozen BK259.out 9; have hfz19_10 := blk_frozen BK259.out 10; have hfz19_11 := blk_frozen BK259.out 11; have hfz19_12 := blk_frozen BK259.out 12) | ((with_reducible refine gate_callee (f := 10) rfl ?_); refine goesL_ (some 24) rfl rfl Try.func10 (by kernel_rfl) rfl #[.slice A0 l0.length c0, .agg #[.int .i64 a1_0, .int .i64 a1_1, .string a1_2, .string a1_3, .int .i64 a1_4, .int .i64 a1_5, .int .i64 a1_6, .int .i64 a1_7, .string a1_8, .string a1_9, .int .i64 a1_10, .int .i64 a1_11, .string a1_12]] rfl (by (try simp only [List.map_toArray, List.map_cons, List.map_nil]); first | done | rfl | (simp only [List.length_drop, List.length_take]; rfl)) ?_; (with_reducible refine (net_Act.calls (fun k_ => k_ < w.heap.size) _ _ l0 a1_0 a1_1 a1_2 a1_3 a1_4 a1_5 a1_6 a1_7 a1_8 a1_9 a1_10 a1_11 a1_12 t262 t265 t266 _ ?side1 A6.out).mono ?_); (case side1 => exact Kd.V_mk HC0.out (Kd.F_below (Kd.C_F Kd.heap_string HR0.out) (by repeat (first | (with_reducible first | exact HB.out | apply below_alloc | apply pw_below_drewN | apply below_drew1 | refine below_set ?_ GE259.out) | exact HB.out)))); rintro e w20 ⟨v263, rfl, ho0, hb⟩; refine ⟨_, rfl, ?_⟩; have n0_ := Aside0.mk (Kd.V_lower (Kd.V_mono (ok' := fun k_ => k_ ≠ gb259) ho0 (fun k_ hk_ => Or.elim hk_ (fun hs_ => fun e_ => Nat.not_le.2 hs_ (by rw [e_]; exact GW259.out)) (fun hn_ => (Kd.freshB (g := gb259) (o := .cells #[.int .i64 a1_0, .int .i64 a1_1, .string a1_2, .string a1_3, .int .i64 a1_4, .int .i64 a1_5, .int .i64 a1_6, .int .i64 a1_7, .string a1_8, .string a1_9, .int .i64 a1_10, .int .i64 a1_11, .string a1_12] 28 (0, 0)) (by (with_reducible repeat (first | refine blk_drewN ?_ _ | refine blk_drew ?_ | refine blk_alloc ?_ _)); exact BK259.out) k_ hn_)))) (below_size (by repeat (first | (with_reducible first | exact HB.out | apply below_alloc | apply pw_below_drewN | apply below_drew1 | refine below_set ?_ GE259.out) | exact HB.out)))); have n1_ := Aside0.mk (blk_below (g := gb259) (o := .cells #[.int .i64 a1_0, .int .i64 a1_1, .string a1_2, .string a1_3, .int .i64 a1_4, .int .i64 a1_5, .int .i64 a1_6, .int .i64 a1_7, .string a1_8, .string a1_9, .int .i64 a1_10, .int .i64 a1_11, .string a1_12] 28 (0, 0)) (by (with_reducible repeat (first | refine blk_drewN ?_ _ | refine blk_drew ?_ | refine blk_alloc ?_ _)); exact BK259.out) hb); have n2_ := Aside0.mk (below_step (by repeat (first | (with_reducible first | exact HB.out | apply below_alloc | apply pw_below_drewN | apply below_drew1 | refine below_set ?_ GE259.out) | exact HB.out)) hb); clear BK259; clear HB; have HO264 := n0_; have BK259 := n1_; have HB := n2_; clear n0_ n1_ n2_; (try clear hb); (try clear hb2); (try clear hk); (try clear hi); (try clear ho0); have hcz21_0 : w20.cell? ⟨gb259, 0, none⟩ = some (.int .i64 a1_0) := (blk_cell BK259.out 0).trans rfl; have hcz21_1 : w20.cell? ⟨gb259, 1, none⟩ = some (.int .i64 a1_1) := (blk_cell BK259.out 1).trans rfl; have hcz21_2 : w20.cell? ⟨gb259, 2, none⟩ = some (.string a1_2) := (blk_cell BK259.out 2).trans rfl; have hcz21_3 : w20.cell? ⟨gb259, 3, none⟩ = some (.string a1_3) := (blk_cell BK259.out 3).trans rfl; have hcz21_4 : w20.cell? ⟨gb259, 4, none⟩ = some (.int .i64 a1_4) := (blk_cell BK259.out 4).trans rfl; have hcz21_5 : w20.cell? ⟨gb259, 5, none⟩ = some (.int .i64 a1_5) := (blk_cell BK259.out 5).trans rfl; have hcz21_6 : w20.cell? ⟨gb259, 6, none⟩ = some (.int .i64 a1_6) := (blk_cell BK259.out 6).trans rfl; have hcz21_7 : w20.cell? ⟨gb259, 7, none⟩ = some (.int .i64 a1_7) := (blk_cell BK259.out 7).trans rfl; have hcz21_8 : w20.cell? ⟨gb259, 8, none⟩ = some (.string a1_8) := (blk_cell BK259.out 8).trans rfl; have hcz21_9 : w20.cell? ⟨gb259, 9, none⟩ = some (.string a1_9) := (blk_cell BK259.out 9).trans rfl; have hcz21_10 : w20.cell? ⟨gb259, 10, none⟩ = some (.int .i64 a1_10) := (blk_cell BK259.out 10).trans rfl; have hcz21_11 : w20.cell? ⟨gb259, 11, none⟩ = some (.int .i64 a1_11) := (blk_cell BK259.out 11).trans rfl; have hcz21_12 : w20.cell? ⟨gb259, 12, none⟩ = some (.string a1_12) := (blk_cell BK259.out 12).trans rfl; have hfz21_0 := blk_frozen BK259.out 0; have hfz21_1 := blk_frozen BK259.out 1; have hfz21_2 := blk_frozen BK259.out 2; have hfz21_3 := blk_frozen BK259.out 3; have hfz21_4 := blk_frozen BK259.out 4; have hfz21_5 := blk_frozen BK259.out 5; have hfz21_6 := blk_frozen BK259.out 6; have hfz21_7 := blk_frozen BK259.out 7; have hfz21_8 := blk_frozen BK259.out 8; have hfz21_9 := blk_frozen BK259.out 9; have hfz21_10 := blk_frozen BK259.out 10; have hfz21_11 := blk_frozen BK259.out 11; have hfz21_12 := blk_frozen BK259.out 12) | ((with_reducible refine gate_callee (f := 11) rfl ?_); refine goesL_ (some 31) rfl rfl Try.func11 (by kernel_rfl) rfl #[.slice A0 l0.length c0, .agg #[.int .i64 a1_0, .int .i64 a1_1, .string a1_2, .string a1_3, .int .i64 a1_4, .int .i64 a1_5, .int .i64 a1_6, .int .i64 a1_7, .string a1_8, .string a1_9, .int .i64 a1_10, .int .i64 a1_11, .string a1_12]] rfl (by (try simp only [List.map_toArray, List.map_cons, List.map_nil]); first | done | rfl | (simp only [List.length_drop, List.length_take]; rfl)) ?_; (with_reducible refine (rollcallref22_Act.calls k (fun k_ => k_ < w.heap.size) _ _ l0 a1_0 a1_1 a1_2 a1_3 a1_4 a1_5 a1_6 a1_7 a1_8 a1_9 a1_10 a1_11 a1_12 t267 t270 t271 _ ?side1 A7.out).mono ?_); (case side1 => exact Kd.V_mk HC0.out (Kd.F_below (Kd.C_F Kd.heap_string HR0.out) (by repeat (first | (with_reducible first | exact HB.out | apply below_alloc | apply pw_below_drewN | apply below_drew1 | refine below_set ?_ GE259.out) | exact HB.out)))); rintro e w22 ⟨v268, rfl, ho0, hb⟩; refine ⟨_, rfl, ?_⟩; have n0_ := Aside0.mk (Kd.V_below (by (with_reducible repeat (first | apply Kd.V_alloc | apply Kd.V_drewN | apply Kd.V_drew)); exact HO264.out) hb); have n1_ := Aside0.mk (Kd.V_lower (Kd.V_mono (ok' := fun k_ => k_ ≠ gb259) ho0 (fun k_ hk_ => Or.elim hk_ (fun hs_ => fun e_ => Nat.not_le.2 hs_ (by rw [e_]; exact GW259.out)) (fun hn_ => (Kd.freshB (g := gb259) (o := .cells #[.int .i64 a1_0, .int .i64 a1_1, .string a1_2, .string a1_3, .int .i64 a1_4, .int .i64 a1_5, .int .i64 a1_6, .int .i64 a1_7, .string a1_8, .string a1_9, .int .i64 a1_10, .int .i64 a1_11, .string a1_12] 28 (0, 0)) (by (with_reducible repeat (first | refine blk_drewN ?_ _ | refine blk_drew ?_ | refine blk_alloc ?_ _)); exact BK259.out) k_ hn_)))) (below_size (by repeat (first | (with_reducible first | exact HB.out | apply below_alloc | apply pw_below_drewN | apply below_drew1 | refine below_set ?_ GE259.out) | exact HB.out)))); have n2_ := Aside0.mk (blk_below (g := gb259) (o := .cells #[.int .i64 a1_0, .int .i64 a1_1, .string a1_2, .string a1_3, .int .i64 a1_4, .int .i64 a1_5, .int .i64 a1_6, .int .i64 a1_7, .string a1_8, .string a1_9, .int .i64 a1_10, .int .i64 a1_11, .string a1_12] 28 (0, 0)) (by (with_reducible repeat (first | refine blk_drewN ?_ _ | refine blk_drew ?_ | refine blk_alloc ?_ _)); exact BK259.out) hb); have n3_ := Aside0.mk (below_step (by repeat (first | (with_reducible first | exact HB.out | apply below_alloc | apply pw_below_drewN | apply below_drew1 | refine below_set ?_ GE259.out) | exact HB.out)) hb); clear HO264; clear BK259; clear HB; have HO264 := n0_; have HO269 := n1_; have BK259 := n2_; have HB := n3_; clear n0_ n1_ n2_ n3_; (try clear hb); (try clear hb2); (try clear hk); (try clear hi); (try clear ho0); have hcz23_0 : w22.cell? ⟨gb259, 0, none⟩ = some (.int .i64 a1_0) := (blk_cell BK259.out 0).trans rfl; have hcz23_1 : w22.cell? ⟨gb259, 1, none⟩ = some (.int .i64 a1_1) := (blk_cell BK259.out 1).trans rfl; have hcz23_2 : w22.cell? ⟨gb259, 2, none⟩ = some (.string a1_2) := (blk_cell BK259.out 2).trans rfl; have hcz23_3 : w22.cell? ⟨gb259, 3, none⟩ = some (.string a1_3) := (blk_cell BK259.out 3).trans rfl; have hcz23_4 : w22.cell? ⟨gb259, 4, none⟩ = some (.int .i64 a1_4) := (blk_cell BK259.out 4).trans rfl; have hcz23_5 : w22.cell? ⟨gb259, 5, none⟩ = some (.int .i64 a1_5) := (blk_cell BK259.out 5).trans rfl; have hcz23_6 : w22.cell? ⟨gb259, 6, none⟩ = some (.int .i64 a1_6) := (blk_cell BK259.out 6).trans rfl; have hcz23_7 : w22.cell? ⟨gb259, 7, none⟩ = some (.int .i64 a1_7) := (blk_cell BK259.out 7).trans rfl; have hcz23_8 : w22.cell? ⟨gb259, 8, none⟩ = some (.string a1_8) := (blk_cell BK259.out 8).trans rfl; have hcz23_9 : w22.cell? ⟨gb259, 9, none⟩ = some (.string a1_9) := (blk_cell BK259.out 9).trans rfl; have hcz23_10 : w22.cell? ⟨gb259, 10, none⟩ = some (.int .i64 a1_10) := (blk_cell BK259.out 10).trans rfl; have hcz23_11 : w22.cell? ⟨gb259, 11, none⟩ = some (.int .i64 a1_11) := (blk_cell BK259.out 11).trans rfl; have hcz23_12 : w22.cell? ⟨gb259, 12, none⟩ = some (.string a1_12) := (blk_cell BK259.out 12).trans rfl; have hfz23_0 := blk_frozen BK259.out 0; have hfz23_1 := blk_frozen BK259.out 1; have hfz23_2 := blk_frozen BK259.out 2; have hfz23_3 := blk_frozen BK259.out 3; have hfz23_4 := blk_frozen BK259.out 4; have hfz23_5 := blk_frozen BK259.out 5; have hfz23_6 := blk_frozen BK259.out 6; have hfz23_7 := blk_frozen BK259.out 7; have hfz23_8 := blk_frozen BK259.out 8; have hfz23_9 := blk_frozen BK259.out 9; have hfz23_10 := blk_frozen BK259.out 10; have hfz23_11 := blk_frozen BK259.out 11; have hfz23_12 := blk_frozen BK259.out 12) | ((with_reducible refine gate_callee (f := 12) rfl ?_); refine goesL_ (some 42) rfl rfl Try.func12 (by kernel_rfl) rfl #[.slice A0 l0.length c0, .int .i64 a1_10, .int .i64 a2, .int .i64 a1_11] rfl (by (try simp only [List.map_toArray, List.map_cons, List.map_nil]); first | done | rfl | (simp only [List.length_drop, List.length_take]; rfl)) ?_; (with_reducible refine (net_Corrupt.calls (fun k_ => k_ < w.heap.size) _ _ l0 a1_10 a2 a1_11 t272 t275 _ ?side1 A8.out).mono ?_); (case side1 => exact Kd.V_mk HC0.out (Kd.F_below (Kd.C_F Kd.heap_string HR0.out) (by repeat (first | (with_reducible first | exact HB.out | apply below_alloc | apply pw_below_drewN | apply below_drew1 | refine below_set ?_ GE259.out) | exact HB.out)))); rintro e w24 ⟨v273, rfl, ho0, hb⟩; refine ⟨_, rfl, ?_⟩; have n0_ := Aside0.mk (Kd.V_below (by (with_reducible repeat (first | apply Kd.V_alloc | apply Kd.V_drewN | apply Kd.V_drew)); exact HO264.out) hb); have n1_ := Aside0.mk (Kd.V_below (by (with_reducible repeat (first | apply Kd.V_alloc | apply Kd.V_drewN | apply Kd.V_drew)); exact HO269.out) hb); have n2_ := Aside0.mk (Kd.V_lower (Kd.V_mono (ok' := fun k_ => k_ ≠ gb259) ho0 (fun k_ hk_ => Or.elim hk_ (fun hs_ => fun e_ => Nat.not_le.2 hs_ (by rw [e_]; exact GW259.out)) (fun hn_ => (Kd.freshB (g := gb259) (o := .cells #[.int .i64 a1_0, .int .i64 a1_1, .string a1_2, .string a1_3, .int .i64 a1_4, .int .i64 a1_5, .int .i64 a1_6, .int .i64 a1_7, .string a1_8, .string a1_9, .int .i64 a1_10, .int .i64 a1_11, .string a1_12] 28 (0, 0)) (by (with_reducible repeat (first | refine blk_drewN ?_ _ | refine blk_drew ?_ | refine blk_alloc ?_ _)); exact BK259.out) k_ hn_)))) (below_size (by repeat (first | (with_reducible first | exact HB.out | apply below_alloc | apply pw_below_drewN | apply below_drew1 | refine below_set ?_ GE259.out) | exact HB.out)))); have n3_ := Aside0.mk (blk_below (g := gb259) (o := .cells #[.int .i64 a1_0, .int .i64 a1_1, .string a1_2, .string a1_3, .int .i64 a1_4, .int .i64 a1_5, .int .i64 a1_6, .int .i64 a1_7, .string a1_8, .string a1_9, .int .i64 a1_10, .int .i64 a1_11, .string a1_12] 28 (0, 0)) (by (with_reducible repeat (first | refine blk_drewN ?_ _ | refine blk_drew ?_ | refine blk_alloc ?_ _)); exact BK259.out) hb); have n4_ := Aside0.mk (below_step (by repeat (first | (with_reducible first | exact HB.out | apply below_alloc | apply pw_below_drewN | apply below_drew1 | refine below_set ?_ GE259.out) | exact HB.out)) hb); clear HO264; clear HO269; clear BK259; clear HB; have HO264 := n0_; have HO269 := n1_; have HO274 := n2_; have BK259 := n3_; have HB := n4_; clear n0_ n1_ n2_ n3_ n4_; (try clear hb); (try clear hb2); (try clear hk); (try clear hi); (try clear ho0); have hcz25_0 : w24.cell? ⟨gb259, 0, none⟩ = some (.int .i64 a1_0) := (blk_cell BK259.out 0).trans rfl; have hcz25_1 : w24.cell? ⟨gb259, 1, none⟩ = some (.int .i64 a1_1) := (blk_cell BK259.out 1).trans rfl; have hcz25_2 : w24.cell? ⟨gb259, 2, none⟩ = some (.string a1_2) := (blk_cell BK259.out 2).trans rfl; have hcz25_3 : w24.cell? ⟨gb259, 3, none⟩ = some (.string a1_3) := (blk_cell BK259.out 3).trans rfl; have hcz25_4 : w24.cell? ⟨gb259, 4, none⟩ = some (.int .i64 a1_4) := (blk_cell BK259.out 4).trans rfl; have hcz25_5 : w24.cell? ⟨gb259, 5, none⟩ = some (.int .i64 a1_5) := (blk_cell BK259.out 5).trans rfl; have hcz25_6 : w24.cell? ⟨gb259, 6, none⟩ = some (.int .i64 a1_6) := (blk_cell BK259.out 6).trans rfl; have hcz25_7 : w24.cell? ⟨gb259, 7, none⟩ = some (.int .i64 a1_7) := (blk_cell BK259.out 7).trans rfl; have hcz25_8 : w24.cell? ⟨gb259, 8, none⟩ = some (.string a1_8) := (blk_cell BK259.out 8).trans rfl; have hcz25_9 : w24.cell? ⟨gb259, 9, none⟩ = some (.string a1_9) := (blk_cell BK259.out 9).trans rfl; have hcz25_10 : w24.cell? ⟨gb259, 10, none⟩ = some (.int .i64 a1_10) := (blk_cell BK259.out 10).trans rfl; have hcz25_11 : w24.cell? ⟨gb259, 11, none⟩ = some (.int .i64 a1_11) := (blk_cell BK259.out 11).trans rfl; have hcz25_12 : w24.cell? ⟨gb259, 12, none⟩ = some (.string a1_12) := (blk_cell BK259.out 12).trans rfl; have hfz25_0 := blk_frozen BK259.out 0; have hfz25_1 := blk_frozen BK259.out 1; have hfz25_2 := blk_frozen BK259.out 2; have hfz25_3 := blk_frozen BK259.out 3; have hfz25_4 := blk_frozen BK259.out 4; have hfz25_5 := blk_frozen BK259.out 5; have hfz25_6 := blk_frozen BK259.out 6; have hfz25_7 := blk_frozen BK259.out 7; have hfz25_8 := blk_frozen BK259.out 8; have hfz25_9 := blk_frozen BK259.out 9; have hfz25_10 := blk_frozen BK259.out 10; have hfz25_11 := blk_frozen BK259.out 11; have hfz25_12 := blk_frozen BK259.out 12) | ((with_reducible refine gate_callee (f := 13) rfl ?_); refine goesL_ (some 52) rfl rfl Try.func13 (by kernel_rfl) rfl #[.slice A0 l0.length c0, .int .i64 a1_10, .int .i64 a2, .int .i64 a1_11] rfl (by (try simp only [List.map_toArray, List.map_cons, List.map_nil]); first | done | rfl | (simp only [List.length_drop, List.length_take]; rfl)) ?_; (with_reducible refine (rollcallref22_Corrupt.calls (fun k_ => k_ < w.heap.size) _ _ l0 a1_10 a2 a1_11 t276 t279 _ ?side1 A9.out).mono ?_); (case side1 => exact Kd.V_mk HC0.out (Kd.F_below (Kd.C_F Kd.heap_string HR0.out) (by repeat (first | (with_reducible first | exact HB.out | apply below_alloc | apply pw_below_drewN | apply below_drew1 | refine below_set ?_ GE259.out) | exact HB.out)))); rintro e w26 ⟨v277, rfl, ho0, hb⟩; refine ⟨_, rfl, ?_⟩; have n0_ := Aside0.mk (Kd.V_below (by (with_reducible repeat (first | apply Kd.V_alloc | apply Kd.V_drewN | apply Kd.V_drew)); exact HO264.out) hb); have n1_ := Aside0.mk (Kd.V_below (by (with_reducible repeat (first | apply Kd.V_alloc | apply Kd.V_drewN | apply Kd.V_drew)); exact HO269.out) hb); have n2_ := Aside0.mk (Kd.V_below (by (with_reducible repeat (first | apply Kd.V_alloc | apply Kd.V_drewN | apply Kd.V_drew)); exact HO274.out) hb); have n3_ := Aside0.mk (Kd.V_lower (Kd.V_mono (ok' := fun k_ => k_ ≠ gb259) ho0 (fun k_ hk_ => Or.elim hk_ (fun hs_ => fun e_ => Nat.not_le.2 hs_ (by rw [e_]; exact GW259.out)) (fun hn_ => (Kd.freshB (g := gb259) (o := .cells #[.int .i64 a1_0, .int .i64 a1_1, .string a1_2, .string a1_3, .int .i64 a1_4, .int .i64 a1_5, .int .i64 a1_6, .int .i64 a1_7, .string a1_8, .string a1_9, .int .i64 a1_10, .int .i64 a1_11, .string a1_12] 28 (0, 0)) (by (with_reducible repeat (first | refine blk_drewN ?_ _ | refine blk_drew ?_ | refine blk_alloc ?_ _)); exact BK259.out) k_ hn_)))) (below_size (by repeat (first | (with_reducible first | exact HB.out | apply below_alloc | apply pw_below_drewN | apply below_drew1 | refine below_set ?_ GE259.out) | exact HB.out)))); have n4_ := Aside0.mk (blk_below (g := gb259) (o := .cells #[.int .i64 a1_0, .int .i64 a1_1, .string a1_2, .string a1_3, .int .i64 a1_4, .int .i64 a1_5, .int .i64 a1_6, .int .i64 a1_7, .string a1_8, .string a1_9, .int .i64 a1_10, .int .i64 a1_11, .string a1_12] 28 (0, 0)) (by (with_reducible repeat (first | refine blk_drewN ?_ _ | refine blk_drew ?_ | refine blk_alloc ?_ _)); exact BK259.out) hb); have n5_ := Aside0.mk (below_step (by repeat (first | (with_reducible first | exact HB.out | apply below_alloc | apply pw_below_drewN | apply below_drew1 | refine below_set ?_ GE259.out) | exact HB.out)) hb); clear HO264; clear HO269; clear HO274; clear BK259; clear HB; have HO264 := n0_; have HO269 := n1_; have HO274 := n2_; have HO278 := n3_; have BK259 := n4_; have HB := n5_; clear n0_ n1_ n2_ n3_ n4_ n5_; (try clear hb); (try clear hb2); (try clear hk); (try clear hi); (try clear ho0); obtain ⟨Ao27, co27, eo27⟩ := Kd.V_slice HO264.out; subst eo27; obtain ⟨Ao28, co28, eo28⟩ := Kd.V_slice HO269.out; subst eo28) | ((with_reducible refine gate_callee (f := 14) rfl ?_); refine goesL_ (some 57) rfl rfl Try.func14 (by kernel_rfl) rfl #[.slice Ao27 t262.length co27, .slice Ao28 t267.length co28] rfl (by (try simp only [List.map_toArray, List.map_cons, List.map_nil]); first | done | rfl | (simp only [List.length_drop, List.length_take]; rfl)) ?_; (with_reducible refine (rollcallref03_Same.calls k _ _ t262 _ _ t267 true _ ?side1 ?side2 ?side3 ?side4 A10.out).mono ?_); (case side1 => repeat (first | exact (Kd.V_reads' HO264.out).2.2 | (with_reducible refine Kd.C_alloc ?_ _) | (with_reducible refine Kd.C_drewN ?_ _) | (with_reducible refine Kd.C_drew ?_))); (case side2 => exact (Kd.V_reads' HO264.out).2.1); (case side3 => repeat (first | exact (Kd.V_reads' HO269.out).2.2 | (with_reducible refine Kd.C_alloc ?_ _) | (with_reducible refine Kd.C_drewN ?_ _) | (with_reducible refine Kd.C_drew ?_))); (case side4 => exact (Kd.V_reads' HO269.out).2.1); rintro e w' ⟨rfl, ⟨nd, rfl⟩⟩; refine ⟨_, rfl, ?_⟩; obtain ⟨Ao29, co29, eo29⟩ := Kd.V_slice HO274.out; subst eo29; obtain ⟨Ao30, co30, eo30⟩ := Kd.V_slice HO278.out; subst eo30) | (go_at_call 14; (with_reducible refine (rollcallref03_Same.calls k _ _ t272 _ _ t276 true _ ?side1 ?side2 ?side3 ?side4 A14.out).mono ?_); (case side1 => repeat (first | exact (Kd.V_reads' HO274.out).2.2 | (with_reducible refine Kd.C_alloc ?_ _) | (with_reducible refine Kd.C_drewN ?_ _) | (with_reducible refine Kd.C_drew ?_))); (case side2 => exact (Kd.V_reads' HO274.out).2.1); (case side3 => repeat (first | exact (Kd.V_reads' HO278.out).2.2 | (with_reducible refine Kd.C_alloc ?_ _) | (with_reducible refine Kd.C_drewN ?_ _) | (with_reducible refine Kd.C_drew ?_))); (case side4 => exact (Kd.V_reads' HO278.out).2.1); rintro e w' ⟨rfl, ⟨nd, rfl⟩⟩) | (go_at_call 9; (with_reducible refine (rollcalllaw22_live.calls k  t282 _ A17.out).mono ?_); rintro e w31 ⟨rfl, hb⟩; have n0_ := Aside0.mk (Kd.V_below (by (with_reducible repeat (first | apply Kd.V_alloc | apply Kd.V_drewN | apply Kd.V_drew)); exact HO264.out) hb); have n1_ := Aside0.mk (Kd.V_below (by (with_reducible repeat (first | apply Kd.V_alloc | apply Kd.V_drewN | apply Kd.V_drew)); exact HO269.out) hb); have n2_ := Aside0.mk (Kd.V_below (by (with_reducible repeat (first | apply Kd.V_alloc | apply Kd.V_drewN | apply Kd.V_drew)); exact HO274.out) hb); have n3_ := Aside0.mk (Kd.V_below (by (with_reducible repeat (first | apply Kd.V_alloc | apply Kd.V_drewN | apply Kd.V_drew)); exact HO278.out) hb); have n4_ := Aside0.mk (blk_below (g := gb259) (o := .cells #[.int .i64 a1_0, .int .i64 a1_1, .string a1_2, .string a1_3, .int .i64 a1_4, .int .i64 a1_5, .int .i64 a1_6, .int .i64 a1_7, .string a1_8, .string a1_9, .int .i64 a1_10, .int .i64 a1_11, .string a1_12] 28 (0, 0)) (by (with_reducible repeat (first | refine blk_drewN ?_ _ | refine blk_drew ?_ | refine blk_alloc ?_ _)); exact BK259.out) hb); have n5_ := Aside0.mk (below_step (by repeat (first | (with_reducible first | exact HB.out | apply below_alloc | apply pw_below_drewN | apply below_drew1 | refine below_set ?_ GE259.out) | exact HB.out)) hb); clear HO264; clear HO269; clear HO274; clear HO278; clear BK259; clear HB; have HO264 := n0_; have HO269 := n1_; have HO274 := n2_; have HO278 := n3_; have BK259 := n4_; have HB := n5_; clear n0_ n1_ n2_ n3_ n4_ n5_; (try clear hb); (try clear hb2); (try clear hk); (try clear hi)))
              go_ret
              exact ⟨by first | rfl | (simp [errW_none, errW_some] <;> rfl) | (simp [*, errW_none, errW_some] <;> rfl), by repeat (first | (with_reducible first | exact HB.out | apply below_alloc | apply pw_below_drewN | apply below_drew1 | refine below_set ?_ GE259.out) | exact HB.out)⟩
            · rw [if_neg c16] at H
              have c16b0 : (t275 == t279) = false := beq_eq_false_iff_ne.mpr c16
              have c16b1 : (t275 != t279) = true := bne_iff_ne.mpr c16
              exact absurd ((Option.some.inj H).trans HT.out) (by simp)
          · replace c15 := Bool.eq_false_iff.mpr c15
            subst c15
            have H1 : (some false) = some r := by rw [if_neg (show ¬ (false = true) by decide)] at H; exact H
            clear H
            have H := H1
            clear H1
            exact absurd ((Option.some.inj H).trans HT.out) (by simp)
        · rw [if_neg c13] at H
          have c13b0 : (t266 == t271) = false := beq_eq_false_iff_ne.mpr c13
          have c13b1 : (t266 != t271) = true := bne_iff_ne.mpr c13
          exact absurd ((Option.some.inj H).trans HT.out) (by simp)
      · rw [if_neg c12] at H
        have c12b0 : (t265.toList == t270.toList) = false := beq_eq_false_iff_ne.mpr c12
        have c12b1 : (t265.toList != t270.toList) = true := bne_iff_ne.mpr c12
        exact absurd ((Option.some.inj H).trans HT.out) (by simp)
    · replace c11 := Bool.eq_false_iff.mpr c11
      subst c11
      have H1 : (some false) = some r := by rw [if_neg (show ¬ (false = true) by decide)] at H; exact H
      clear H
      have H := H1
      clear H1
      exact absurd ((Option.some.inj H).trans HT.out) (by simp)
  · replace c5 := Bool.eq_false_iff.mpr c5
    subst c5
    have H1 : ((rollcalllaw22_live.f k).bind fun t261 => (some t261)) = some r := by rw [if_neg (show ¬ (false = true) by decide)] at H; exact H
    clear H
    have H := H1
    clear H1
    replace H := Option.bind_eq_some_iff.mp H
    obtain ⟨t261, A320, H⟩ := H
    replace H : (some t261) = some r := H
    have A32 := Aside0.mk A320
    clear A320
    obtain rfl := Option.some.inj H
    go_enter Try.func3, Try.ntmps3
    go_wp2_with (first | ((with_reducible refine gate_dst (N := 4) rfl ?_); refine box_event ?hg (N := 4) ?hd (cs := #[.int .i64 a1_0, .int .i64 a1_1, .string a1_2, .string a1_3, .int .i64 a1_4, .int .i64 a1_5, .int .i64 a1_6, .int .i64 a1_7, .string a1_8, .string a1_9, .int .i64 a1_10, .int .i64 a1_11, .string a1_12]) (t := 28) ?hr ?_; (case hd => rfl); (case hg => rfl); (case hr => first | (go_simp; done) | (go_simp; rfl)); intro gb259 hg w33 hbox hb; have n0_ := Aside0.mk (below_step (by repeat (first | (with_reducible first | exact HB.out | apply below_alloc | apply pw_below_drewN | apply below_drew1) | exact HB.out)) hb); have n1_ := Aside0.mk (hbox); have n2_ := Aside0.mk ((by rw [hg]; exact (below_size (by repeat (first | (with_reducible first | exact HB.out | apply below_alloc | apply pw_below_drewN | apply below_drew1) | exact HB.out))) : w.heap.size ≤ gb259)); have n3_ := Aside0.mk ((by rw [hg]; exact (below_size (by repeat (first | (with_reducible first | exact HB.out | apply below_alloc | apply pw_below_drewN | apply below_drew1) | exact HB.out))) : w.heap.size ≤ gb259)); clear HB; have HB := n0_; have BK259 := n1_; have GW259 := n2_; have GE259 := n3_; clear n0_ n1_ n2_ n3_; clear hb hbox hg) | ((with_reducible refine gate_callee (f := 8) rfl ?_); refine goesL_ (some 18) rfl rfl Try.func8 (by kernel_rfl) rfl #[.slice A0 l0.length c0, .int .i64 510, .int .i64 100] rfl (by (try simp only [List.map_toArray, List.map_cons, List.map_nil]); first | done | rfl | (simp only [List.length_drop, List.length_take]; rfl)) ?_; (with_reducible refine (rollcallref03_Few.calls k _ _ l0 510 100 false _ ?side1 ?side2 A4.out).mono ?_); (case side1 => repeat (first | exact (Kd.C_below HR0.out HB.out) | (with_reducible refine Kd.C_alloc ?_ _) | (with_reducible refine Kd.C_drewN ?_ _) | (with_reducible refine Kd.C_drew ?_))); (case side2 => exact HC0.out); rintro e w' ⟨rfl, ⟨nd, rfl⟩⟩; refine ⟨_, rfl, ?_⟩) | ((with_reducible refine gate_callee (f := 9) rfl ?_); refine goesL_ (some 20) rfl rfl Try.func9 (by kernel_rfl) rfl #[] rfl (by (try simp only [List.map_toArray, List.map_cons, List.map_nil]); first | done | rfl | (simp only [List.length_drop, List.length_take]; rfl)) ?_; (with_reducible refine (rollcalllaw22_live.calls k  t261 _ A32.out).mono ?_); rintro e w34 ⟨rfl, hb⟩; refine ⟨_, rfl, ?_⟩; have n0_ := Aside0.mk (blk_below (g := gb259) (o := .cells #[.int .i64 a1_0, .int .i64 a1_1, .string a1_2, .string a1_3, .int .i64 a1_4, .int .i64 a1_5, .int .i64 a1_6, .int .i64 a1_7, .string a1_8, .string a1_9, .int .i64 a1_10, .int .i64 a1_11, .string a1_12] 28 (0, 0)) (by (with_reducible repeat (first | refine blk_drewN ?_ _ | refine blk_drew ?_ | refine blk_alloc ?_ _)); exact BK259.out) hb); have n1_ := Aside0.mk (below_step (by repeat (first | (with_reducible first | exact HB.out | apply below_alloc | apply pw_below_drewN | apply below_drew1 | refine below_set ?_ GE259.out) | exact HB.out)) hb); clear BK259; clear HB; have BK259 := n0_; have HB := n1_; clear n0_ n1_; (try clear hb); (try clear hb2); (try clear hk); (try clear hi)))
    go_ret
    exact ⟨by first | rfl | (simp [errW_none, errW_some] <;> rfl) | (simp [*, errW_none, errW_some] <;> rfl), by repeat (first | (with_reducible first | exact HB.out | apply below_alloc | apply pw_below_drewN | apply below_drew1 | refine below_set ?_ GE259.out) | exact HB.out)⟩

/-- THE PURE STATEMENT of rollcalllaw22_NetDoes. -/
def rollcalllaw22_NetDoes.Pure : Prop := ∀ (l0 : List ByteArray) (a1_0 : Int) (a1_1 : Int) (a1_2 : ByteArray) (a1_3 : ByteArray) (a1_4 : Int) (a1_5 : Int) (a1_6 : Int) (a1_7 : Int) (a1_8 : ByteArray) (a1_9 : ByteArray) (a1_10 : Int) (a1_11 : Int) (a1_12 : ByteArray) (a2 : Int), l0.length ≤ maxLen → (∀ x_ ∈ l0, x_.size ≤ maxLen) → (Lit.int .i64 a1_0).wf = true → (Lit.int .i64 a1_1).wf = true → a1_2.size ≤ maxLen → a1_3.size ≤ maxLen → (Lit.int .i64 a1_4).wf = true → (Lit.int .i64 a1_5).wf = true → (Lit.int .i64 a1_6).wf = true → (Lit.int .i64 a1_7).wf = true → a1_8.size ≤ maxLen → a1_9.size ≤ maxLen → (Lit.int .i64 a1_10).wf = true → (Lit.int .i64 a1_11).wf = true → a1_12.size ≤ maxLen → (Lit.int .i64 a2).wf = true → ∃ k, rollcalllaw22_NetDoes.f k l0 a1_0 a1_1 a1_2 a1_3 a1_4 a1_5 a1_6 a1_7 a1_8 a1_9 a1_10 a1_11 a1_12 a2 = some true
theorem rollcalllaw22_NetDoes.walkx (P : rollcalllaw22_NetDoes.Pure) (A0 : Option Addr) (c0 : Nat) (l0 : List ByteArray) (a1_0 : Int) (a1_1 : Int) (a1_2 : ByteArray) (a1_3 : ByteArray) (a1_4 : Int) (a1_5 : Int) (a1_6 : Int) (a1_7 : Int) (a1_8 : ByteArray) (a1_9 : ByteArray) (a1_10 : Int) (a1_11 : Int) (a1_12 : ByteArray) (a2 : Int) (w : World) (hr0 : Kd.C Kd.string w A0 l0.length l0) (hc0 : l0.length ≤ c0) (q0 : l0.length ≤ maxLen) (q1 : (∀ x_ ∈ l0, x_.size ≤ maxLen)) (q2 : (Lit.int .i64 a1_0).wf = true) (q3 : (Lit.int .i64 a1_1).wf = true) (q4 : a1_2.size ≤ maxLen) (q5 : a1_3.size ≤ maxLen) (q6 : (Lit.int .i64 a1_4).wf = true) (q7 : (Lit.int .i64 a1_5).wf = true) (q8 : (Lit.int .i64 a1_6).wf = true) (q9 : (Lit.int .i64 a1_7).wf = true) (q10 : a1_8.size ≤ maxLen) (q11 : a1_9.size ≤ maxLen) (q12 : (Lit.int .i64 a1_10).wf = true) (q13 : (Lit.int .i64 a1_11).wf = true) (q14 : a1_12.size ≤ maxLen) (q15 : (Lit.int .i64 a2).wf = true) :
    Calls Try.prog 3 #[.slice A0 l0.length c0, .agg #[.int .i64 a1_0, .int .i64 a1_1, .string a1_2, .string a1_3, .int .i64 a1_4, .int .i64 a1_5, .int .i64 a1_6, .int .i64 a1_7, .string a1_8, .string a1_9, .int .i64 a1_10, .int .i64 a1_11, .string a1_12], .int .i64 a2] w fun e w' => e = .returned (.bool true) ∧ Below w.heap.size w w' := by
  obtain ⟨k, h⟩ := P l0 a1_0 a1_1 a1_2 a1_3 a1_4 a1_5 a1_6 a1_7 a1_8 a1_9 a1_10 a1_11 a1_12 a2 q0 q1 q2 q3 q4 q5 q6 q7 q8 q9 q10 q11 q12 q13 q14 q15
  refine (rollcalllaw22_NetDoes.calls k A0 c0 l0 a1_0 a1_1 a1_2 a1_3 a1_4 a1_5 a1_6 a1_7 a1_8 a1_9 a1_10 a1_11 a1_12 a2 true rfl w hr0 hc0 h).mono ?_
  rintro e w' ⟨rfl, hd⟩
  exact ⟨rfl, hd⟩

/-! ### rollcalllaw22_NetMoves: function 4 -/
def rollcalllaw22_NetMoves.j0 : Nat → List ByteArray → List ByteArray → Int → Bool → Option (Bool)
  | 0, _, _, _, _ => none
  | k + 1, x0, x1, x2, x28 => if x28 = true then ((rollcalllaw22_live.f k).bind fun t285 => (some t285)) else ((net_Take.f x0 x2).bind fun bt286 => ((rollcallref22_Take.f x0 x2).bind fun bt291 => ((net_Drop.f x0 x2).bind fun bt296 => ((rollcallref22_Drop.f x0 x2).bind fun bt300 => ((net_Twice.f x0 x2).bind fun bt304 => ((rollcallref22_Twice.f k x0 x2).bind fun bt308 => (if bt286.1.toList = bt291.1.toList then ((rollcallref03_Same.f k bt286.2.1 bt291.2.1).bind fun t312 => (if t312 = true then (if bt286.2.2 = bt291.2.2 then ((rollcallref03_Same.f k bt296.1 bt300.1).bind fun t313 => (if t313 = true then (if bt296.2 = bt300.2 then ((rollcallref03_Same.f k bt304.1 bt308.1).bind fun t314 => (if t314 = true then (if bt304.2 = bt308.2 then ((net_Send.f x0 x1).bind fun t315 => ((rollcallref22_Send.f x0 x1).bind fun t318 => ((rollcallref03_Same.f k t315 t318).bind fun t321 => (if t321 = true then ((rollcalllaw22_live.f k).bind fun t322 => (some t322)) else (some false))))) else (some false)) else (some false))) else (some false)) else (some false))) else (some false)) else (some false))) else (some false))))))))
def rollcalllaw22_NetMoves.f (k : Nat) (l0 : List ByteArray) (l1 : List ByteArray) (a2 : Int) : Option (Bool) := (rollcallref03_Few.f k l0 30 100).bind fun t283 => (if t283 = true then ((rollcallref03_Few.f k l1 30 100).bind fun t284 => (rollcalllaw22_NetMoves.j0 k l0 l1 a2 (!t284))) else (rollcalllaw22_NetMoves.j0 k l0 l1 a2 true))
theorem rollcalllaw22_NetMoves.mono_l : ∀ k, (∀ y0 y1 y2 y3, LeO (rollcalllaw22_NetMoves.j0 k y0 y1 y2 y3) (rollcalllaw22_NetMoves.j0 (k + 1) y0 y1 y2 y3))
  | 0 => fun _ _ _ _ r h => by simp [rollcalllaw22_NetMoves.j0] at h
  | k + 1 => by
    have ih0 := rollcalllaw22_NetMoves.mono_l k
    · intro y0 y1 y2 y3
      unfold rollcalllaw22_NetMoves.j0
      repeat' first
      | (with_reducible exact ih0 _ _ _ _)
      | (with_reducible exact rollcalllaw22_live.mono _)
      | (with_reducible exact rollcallref03_Few.mono _ _ _ _)
      | (with_reducible exact rollcallref03_Same.mono _ _ _)
      | (with_reducible exact rollcallref22_Twice.mono _ _ _)
      | (with_reducible exact LeO.refl _)
      | (with_reducible exact LeO.none _)
      | (with_reducible refine LeO.ite ?_ ?_)
      | (with_reducible refine LeO.bind ?_ (fun _ => ?_))
      | exact ih0 _ _ _ _
      | exact rollcalllaw22_live.mono _
      | exact rollcallref03_Few.mono _ _ _ _
      | exact rollcallref03_Same.mono _ _ _
      | exact rollcallref22_Twice.mono _ _ _
      | exact LeO.none _
      | refine LeO.ite ?_ ?_
      | refine LeO.bind ?_ (fun _ => ?_)
theorem rollcalllaw22_NetMoves.mono : ∀ a0 a1 a2 k, LeO (rollcalllaw22_NetMoves.f k a0 a1 a2) (rollcalllaw22_NetMoves.f (k + 1) a0 a1 a2) := by
  intro a0 a1 a2 k
  have ih0 := rollcalllaw22_NetMoves.mono_l k
  unfold rollcalllaw22_NetMoves.f
  repeat' first
      | (with_reducible exact ih0 _ _ _ _)
      | (with_reducible exact rollcalllaw22_live.mono _)
      | (with_reducible exact rollcallref03_Few.mono _ _ _ _)
      | (with_reducible exact rollcallref03_Same.mono _ _ _)
      | (with_reducible exact rollcallref22_Twice.mono _ _ _)
      | (with_reducible exact LeO.refl _)
      | (with_reducible exact LeO.none _)
      | (with_reducible refine LeO.ite ?_ ?_)
      | (with_reducible refine LeO.bind ?_ (fun _ => ?_))
      | exact ih0 _ _ _ _
      | exact rollcalllaw22_live.mono _
      | exact rollcallref03_Few.mono _ _ _ _
      | exact rollcallref03_Same.mono _ _ _
      | exact rollcallref22_Twice.mono _ _ _
      | exact LeO.none _
      | refine LeO.ite ?_ ?_
      | refine LeO.bind ?_ (fun _ => ?_)
set_option maxHeartbeats 8000000 in
set_option maxRecDepth 100000 in
theorem rollcalllaw22_NetMoves.calls (k : Nat) (A0 : Option Addr) (c0 : Nat) (l0 : List ByteArray) (A1 : Option Addr) (c1 : Nat) (l1 : List ByteArray) (a2 : Int) (r : Bool) (hT_ : r = true) (w : World) (hr0 : Kd.C Kd.string w A0 l0.length l0) (hc0 : l0.length ≤ c0) (hr1 : Kd.C Kd.string w A1 l1.length l1) (hc1 : l1.length ≤ c1) (h : rollcalllaw22_NetMoves.f k l0 l1 a2 = some r) :
    Calls Try.prog 4 #[.slice A0 l0.length c0, .slice A1 l1.length c1, .int .i64 a2] w fun e w' => e = .returned (.bool r) ∧ Below w.heap.size w w' := by
  have HT := Aside0.mk hT_
  clear hT_
  have HR0 := Aside0.mk hr0
  have HC0 := Aside0.mk hc0
  clear hr0 hc0
  have HR1 := Aside0.mk hr1
  have HC1 := Aside0.mk hc1
  clear hr1 hc1
  have HB := Aside0.mk (Below.refl w.heap.size w)
  have H : ((rollcallref03_Few.f k l0 30 100).bind fun t283 => (if t283 = true then ((rollcallref03_Few.f k l1 30 100).bind fun t284 => (rollcalllaw22_NetMoves.j0 k l0 l1 a2 (!t284))) else (rollcalllaw22_NetMoves.j0 k l0 l1 a2 true))) = some r := h
  clear h
  have HC4 := Aside0.mk H
  clear H
  go_enter Try.func4, Try.ntmps4
  go_upto_region 1 with (fail)
  go_cut [28] (fun v28 wc => ∃ (kq : Nat) (x28_3 : Bool), v28 = .bool x28_3 ∧ Aside0 (rollcalllaw22_NetMoves.j0 kq l0 l1 a2 x28_3 = some r) ∧ Aside0 (kq ≤ k) ∧ Aside0 (Below w.heap.size w wc))
  case first =>
    have H := HC4.out
    clear HC4
    replace H := Option.bind_eq_some_iff.mp H
    obtain ⟨t283, A50, H⟩ := H
    replace H : (if t283 = true then ((rollcallref03_Few.f k l1 30 100).bind fun t284 => (rollcalllaw22_NetMoves.j0 k l0 l1 a2 (!t284))) else (rollcalllaw22_NetMoves.j0 k l0 l1 a2 true)) = some r := H
    have A5 := Aside0.mk A50
    clear A50
    by_cases c6 : t283 = true
    · subst c6
      have H1 : ((rollcallref03_Few.f k l1 30 100).bind fun t284 => (rollcalllaw22_NetMoves.j0 k l0 l1 a2 (!t284))) = some r := by rw [if_pos rfl] at H; exact H
      clear H
      have H := H1
      clear H1
      replace H := Option.bind_eq_some_iff.mp H
      obtain ⟨t284, A70, H⟩ := H
      replace H : (rollcalllaw22_NetMoves.j0 k l0 l1 a2 (!t284)) = some r := H
      have A7 := Aside0.mk A70
      clear A70
      have H' := Aside0.mk H
      clear H
      go_wp2_with (first | ((with_reducible refine gate_callee (f := 8) rfl ?_); refine goesL_ (some 22) rfl rfl Try.func8 (by kernel_rfl) rfl #[.slice A0 l0.length c0, .int .i64 30, .int .i64 100] rfl (by (try simp only [List.map_toArray, List.map_cons, List.map_nil]); first | done | rfl | (simp only [List.length_drop, List.length_take]; rfl)) ?_; (with_reducible refine (rollcallref03_Few.calls k _ _ l0 30 100 true _ ?side1 ?side2 A5.out).mono ?_); (case side1 => repeat (first | exact (Kd.C_below HR0.out HB.out) | (with_reducible refine Kd.C_alloc ?_ _) | (with_reducible refine Kd.C_drewN ?_ _) | (with_reducible refine Kd.C_drew ?_))); (case side2 => exact HC0.out); rintro e w' ⟨rfl, ⟨nd, rfl⟩⟩; refine ⟨_, rfl, ?_⟩) | (go_at_call 8; (with_reducible refine (rollcallref03_Few.calls k _ _ l1 30 100 t284 _ ?side1 ?side2 A7.out).mono ?_); (case side1 => repeat (first | exact (Kd.C_below HR1.out (by repeat (first | (with_reducible first | exact HB.out | apply below_alloc | apply pw_below_drewN | apply below_drew1) | exact HB.out))) | (with_reducible refine Kd.C_alloc ?_ _) | (with_reducible refine Kd.C_drewN ?_ _) | (with_reducible refine Kd.C_drew ?_))); (case side2 => exact HC1.out); rintro e w' ⟨rfl, ⟨nd, rfl⟩⟩))
      go_meet
      case rel => exact ⟨_, (!t284), (by first | rfl | (simp; done) | (simp [*]; done)), H', ⟨by first | omega | exact Nat.le_refl _⟩, ⟨by repeat (first | (with_reducible first | exact HB.out | apply below_alloc | apply pw_below_drewN | apply below_drew1) | exact HB.out)⟩⟩
    · replace c6 := Bool.eq_false_iff.mpr c6
      subst c6
      have H1 : (rollcalllaw22_NetMoves.j0 k l0 l1 a2 true) = some r := by rw [if_neg (show ¬ (false = true) by decide)] at H; exact H
      clear H
      have H := H1
      clear H1
      have H' := Aside0.mk H
      clear H
      go_wp2_with (first | ((with_reducible refine gate_callee (f := 8) rfl ?_); refine goesL_ (some 22) rfl rfl Try.func8 (by kernel_rfl) rfl #[.slice A0 l0.length c0, .int .i64 30, .int .i64 100] rfl (by (try simp only [List.map_toArray, List.map_cons, List.map_nil]); first | done | rfl | (simp only [List.length_drop, List.length_take]; rfl)) ?_; (with_reducible refine (rollcallref03_Few.calls k _ _ l0 30 100 false _ ?side1 ?side2 A5.out).mono ?_); (case side1 => repeat (first | exact (Kd.C_below HR0.out HB.out) | (with_reducible refine Kd.C_alloc ?_ _) | (with_reducible refine Kd.C_drewN ?_ _) | (with_reducible refine Kd.C_drew ?_))); (case side2 => exact HC0.out); rintro e w' ⟨rfl, ⟨nd, rfl⟩⟩; refine ⟨_, rfl, ?_⟩))
      go_meet
      case rel => exact ⟨_, (true), (by first | rfl | (simp; done) | (simp [*]; done)), H', ⟨by first | omega | exact Nat.le_refl _⟩, ⟨by repeat (first | (with_reducible first | exact HB.out | apply below_alloc | apply pw_below_drewN | apply below_drew1) | exact HB.out)⟩⟩
  case rest =>
    clear HC4
    try clear c1
    try clear p2
    try clear c4
    try clear c6
    obtain ⟨kq, x28_3, rfl, HA, HJ3, HB⟩ := hcut
    cases kq with
    | zero => exact absurd HA.out (by simp [rollcalllaw22_NetMoves.j0])
    | succ kj3 =>
      have H := HA.out
      clear HA
      simp only [rollcalllaw22_NetMoves.j0] at H
      by_cases c8 : x28_3 = true
      · subst c8
        have H1 : ((rollcalllaw22_live.f kj3).bind fun t285 => (some t285)) = some r := by rw [if_pos rfl] at H; exact H
        clear H
        have H := H1
        clear H1
        replace H := Option.bind_eq_some_iff.mp H
        obtain ⟨t285, A90, H⟩ := H
        replace H : (some t285) = some r := H
        have A9 := Aside0.mk A90
        clear A90
        obtain rfl := Option.some.inj H
        go_wp2_with (first | ((with_reducible refine gate_callee (f := 9) rfl ?_); refine goesL_ (some 29) rfl rfl Try.func9 (by kernel_rfl) rfl #[] rfl (by (try simp only [List.map_toArray, List.map_cons, List.map_nil]); first | done | rfl | (simp only [List.length_drop, List.length_take]; rfl)) ?_; (with_reducible refine (rollcalllaw22_live.calls kj3  t285 _ A9.out).mono ?_); rintro e w10 ⟨rfl, hb⟩; refine ⟨_, rfl, ?_⟩; have n0_ := Aside0.mk (below_step (by repeat (first | (with_reducible first | exact HB.out | apply below_alloc | apply pw_below_drewN | apply below_drew1) | exact HB.out)) hb); clear HB; have HB := n0_; clear n0_; (try clear hb); (try clear hb2); (try clear hk); (try clear hi)))
        go_ret
        exact ⟨by first | rfl | (simp [errW_none, errW_some] <;> rfl) | (simp [*, errW_none, errW_some] <;> rfl), by repeat (first | (with_reducible first | exact HB.out | apply below_alloc | apply pw_below_drewN | apply below_drew1) | exact HB.out)⟩
      · replace c8 := Bool.eq_false_iff.mpr c8
        subst c8
        have H1 : ((net_Take.f l0 a2).bind fun bt286 => ((rollcallref22_Take.f l0 a2).bind fun bt291 => ((net_Drop.f l0 a2).bind fun bt296 => ((rollcallref22_Drop.f l0 a2).bind fun bt300 => ((net_Twice.f l0 a2).bind fun bt304 => ((rollcallref22_Twice.f kj3 l0 a2).bind fun bt308 => (if bt286.1.toList = bt291.1.toList then ((rollcallref03_Same.f kj3 bt286.2.1 bt291.2.1).bind fun t312 => (if t312 = true then (if bt286.2.2 = bt291.2.2 then ((rollcallref03_Same.f kj3 bt296.1 bt300.1).bind fun t313 => (if t313 = true then (if bt296.2 = bt300.2 then ((rollcallref03_Same.f kj3 bt304.1 bt308.1).bind fun t314 => (if t314 = true then (if bt304.2 = bt308.2 then ((net_Send.f l0 l1).bind fun t315 => ((rollcallref22_Send.f l0 l1).bind fun t318 => ((rollcallref03_Same.f kj3 t315 t318).bind fun t321 => (if t321 = true then ((rollcalllaw22_live.f kj3).bind fun t322 => (some t322)) else (some false))))) else (some false)) else (some false))) else (some false)) else (some false))) else (some false)) else (some false))) else (some false)))))))) = some r := by rw [if_neg (show ¬ (false = true) by decide)] at H; exact H
        clear H
        have H := H1
        clear H1
        replace H := Option.bind_eq_some_iff.mp H
        obtain ⟨⟨t286, t287, t290⟩, A110, H⟩ := H
        replace H : ((rollcallref22_Take.f l0 a2).bind fun bt291 => ((net_Drop.f l0 a2).bind fun bt296 => ((rollcallref22_Drop.f l0 a2).bind fun bt300 => ((net_Twice.f l0 a2).bind fun bt304 => ((rollcallref22_Twice.f kj3 l0 a2).bind fun bt308 => (if t286.toList = bt291.1.toList then ((rollcallref03_Same.f kj3 t287 bt291.2.1).bind fun t312 => (if t312 = true then (if t290 = bt291.2.2 then ((rollcallref03_Same.f kj3 bt296.1 bt300.1).bind fun t313 => (if t313 = true then (if bt296.2 = bt300.2 then ((rollcallref03_Same.f kj3 bt304.1 bt308.1).bind fun t314 => (if t314 = true then (if bt304.2 = bt308.2 then ((net_Send.f l0 l1).bind fun t315 => ((rollcallref22_Send.f l0 l1).bind fun t318 => ((rollcallref03_Same.f kj3 t315 t318).bind fun t321 => (if t321 = true then ((rollcalllaw22_live.f kj3).bind fun t322 => (some t322)) else (some false))))) else (some false)) else (some false))) else (some false)) else (some false))) else (some false)) else (some false))) else (some false))))))) = some r := H
        have A11 := Aside0.mk A110
        clear A110
        replace H := Option.bind_eq_some_iff.mp H
        obtain ⟨⟨t291, t292, t295⟩, A120, H⟩ := H
        replace H : ((net_Drop.f l0 a2).bind fun bt296 => ((rollcallref22_Drop.f l0 a2).bind fun bt300 => ((net_Twice.f l0 a2).bind fun bt304 => ((rollcallref22_Twice.f kj3 l0 a2).bind fun bt308 => (if t286.toList = t291.toList then ((rollcallref03_Same.f kj3 t287 t292).bind fun t312 => (if t312 = true then (if t290 = t295 then ((rollcallref03_Same.f kj3 bt296.1 bt300.1).bind fun t313 => (if t313 = true then (if bt296.2 = bt300.2 then ((rollcallref03_Same.f kj3 bt304.1 bt308.1).bind fun t314 => (if t314 = true then (if bt304.2 = bt308.2 then ((net_Send.f l0 l1).bind fun t315 => ((rollcallref22_Send.f l0 l1).bind fun t318 => ((rollcallref03_Same.f kj3 t315 t318).bind fun t321 => (if t321 = true then ((rollcalllaw22_live.f kj3).bind fun t322 => (some t322)) else (some false))))) else (some false)) else (some false))) else (some false)) else (some false))) else (some false)) else (some false))) else (some false)))))) = some r := H
        have A12 := Aside0.mk A120
        clear A120
        replace H := Option.bind_eq_some_iff.mp H
        obtain ⟨⟨t296, t299⟩, A130, H⟩ := H
        replace H : ((rollcallref22_Drop.f l0 a2).bind fun bt300 => ((net_Twice.f l0 a2).bind fun bt304 => ((rollcallref22_Twice.f kj3 l0 a2).bind fun bt308 => (if t286.toList = t291.toList then ((rollcallref03_Same.f kj3 t287 t292).bind fun t312 => (if t312 = true then (if t290 = t295 then ((rollcallref03_Same.f kj3 t296 bt300.1).bind fun t313 => (if t313 = true then (if t299 = bt300.2 then ((rollcallref03_Same.f kj3 bt304.1 bt308.1).bind fun t314 => (if t314 = true then (if bt304.2 = bt308.2 then ((net_Send.f l0 l1).bind fun t315 => ((rollcallref22_Send.f l0 l1).bind fun t318 => ((rollcallref03_Same.f kj3 t315 t318).bind fun t321 => (if t321 = true then ((rollcalllaw22_live.f kj3).bind fun t322 => (some t322)) else (some false))))) else (some false)) else (some false))) else (some false)) else (some false))) else (some false)) else (some false))) else (some false))))) = some r := H
        have A13 := Aside0.mk A130
        clear A130
        replace H := Option.bind_eq_some_iff.mp H
        obtain ⟨⟨t300, t303⟩, A140, H⟩ := H
        replace H : ((net_Twice.f l0 a2).bind fun bt304 => ((rollcallref22_Twice.f kj3 l0 a2).bind fun bt308 => (if t286.toList = t291.toList then ((rollcallref03_Same.f kj3 t287 t292).bind fun t312 => (if t312 = true then (if t290 = t295 then ((rollcallref03_Same.f kj3 t296 t300).bind fun t313 => (if t313 = true then (if t299 = t303 then ((rollcallref03_Same.f kj3 bt304.1 bt308.1).bind fun t314 => (if t314 = true then (if bt304.2 = bt308.2 then ((net_Send.f l0 l1).bind fun t315 => ((rollcallref22_Send.f l0 l1).bind fun t318 => ((rollcallref03_Same.f kj3 t315 t318).bind fun t321 => (if t321 = true then ((rollcalllaw22_live.f kj3).bind fun t322 => (some t322)) else (some false))))) else (some false)) else (some false))) else (some false)) else (some false))) else (some false)) else (some false))) else (some false)))) = some r := H
        have A14 := Aside0.mk A140
        clear A140
        replace H := Option.bind_eq_some_iff.mp H
        obtain ⟨⟨t304, t307⟩, A150, H⟩ := H
        replace H : ((rollcallref22_Twice.f kj3 l0 a2).bind fun bt308 => (if t286.toList = t291.toList then ((rollcallref03_Same.f kj3 t287 t292).bind fun t312 => (if t312 = true then (if t290 = t295 then ((rollcallref03_Same.f kj3 t296 t300).bind fun t313 => (if t313 = true then (if t299 = t303 then ((rollcallref03_Same.f kj3 t304 bt308.1).bind fun t314 => (if t314 = true then (if t307 = bt308.2 then ((net_Send.f l0 l1).bind fun t315 => ((rollcallref22_Send.f l0 l1).bind fun t318 => ((rollcallref03_Same.f kj3 t315 t318).bind fun t321 => (if t321 = true then ((rollcalllaw22_live.f kj3).bind fun t322 => (some t322)) else (some false))))) else (some false)) else (some false))) else (some false)) else (some false))) else (some false)) else (some false))) else (some false))) = some r := H
        have A15 := Aside0.mk A150
        clear A150
        replace H := Option.bind_eq_some_iff.mp H
        obtain ⟨⟨t308, t311⟩, A160, H⟩ := H
        replace H : (if t286.toList = t291.toList then ((rollcallref03_Same.f kj3 t287 t292).bind fun t312 => (if t312 = true then (if t290 = t295 then ((rollcallref03_Same.f kj3 t296 t300).bind fun t313 => (if t313 = true then (if t299 = t303 then ((rollcallref03_Same.f kj3 t304 t308).bind fun t314 => (if t314 = true then (if t307 = t311 then ((net_Send.f l0 l1).bind fun t315 => ((rollcallref22_Send.f l0 l1).bind fun t318 => ((rollcallref03_Same.f kj3 t315 t318).bind fun t321 => (if t321 = true then ((rollcalllaw22_live.f kj3).bind fun t322 => (some t322)) else (some false))))) else (some false)) else (some false))) else (some false)) else (some false))) else (some false)) else (some false))) else (some false)) = some r := H
        have A16 := Aside0.mk A160
        clear A160
        by_cases c17 : t286.toList = t291.toList
        · rw [if_pos c17] at H
          have c17b0 : (t286.toList == t291.toList) = true := beq_iff_eq.mpr c17
          have c17b1 : (t286.toList != t291.toList) = false := bne_eq_false_iff_eq.mpr c17
          clear c17
          replace H := Option.bind_eq_some_iff.mp H
          obtain ⟨t312, A180, H⟩ := H
          replace H : (if t312 = true then (if t290 = t295 then ((rollcallref03_Same.f kj3 t296 t300).bind fun t313 => (if t313 = true then (if t299 = t303 then ((rollcallref03_Same.f kj3 t304 t308).bind fun t314 => (if t314 = true then (if t307 = t311 then ((net_Send.f l0 l1).bind fun t315 => ((rollcallref22_Send.f l0 l1).bind fun t318 => ((rollcallref03_Same.f kj3 t315 t318).bind fun t321 => (if t321 = true then ((rollcalllaw22_live.f kj3).bind fun t322 => (some t322)) else (some false))))) else (some false)) else (some false))) else (some false)) else (some false))) else (some false)) else (some false)) = some r := H
          have A18 := Aside0.mk A180
          clear A180
          by_cases c19 : t312 = true
          · subst c19
            have H1 : (if t290 = t295 then ((rollcallref03_Same.f kj3 t296 t300).bind fun t313 => (if t313 = true then (if t299 = t303 then ((rollcallref03_Same.f kj3 t304 t308).bind fun t314 => (if t314 = true then (if t307 = t311 then ((net_Send.f l0 l1).bind fun t315 => ((rollcallref22_Send.f l0 l1).bind fun t318 => ((rollcallref03_Same.f kj3 t315 t318).bind fun t321 => (if t321 = true then ((rollcalllaw22_live.f kj3).bind fun t322 => (some t322)) else (some false))))) else (some false)) else (some false))) else (some false)) else (some false))) else (some false)) = some r := by rw [if_pos rfl] at H; exact H
            clear H
            have H := H1
            clear H1
            by_cases c20 : t290 = t295
            · rw [if_pos c20] at H
              have c20b0 : (t290 == t295) = true := beq_iff_eq.mpr c20
              have c20b1 : (t290 != t295) = false := bne_eq_false_iff_eq.mpr c20
              clear c20
              replace H := Option.bind_eq_some_iff.mp H
              obtain ⟨t313, A210, H⟩ := H
              replace H : (if t313 = true then (if t299 = t303 then ((rollcallref03_Same.f kj3 t304 t308).bind fun t314 => (if t314 = true then (if t307 = t311 then ((net_Send.f l0 l1).bind fun t315 => ((rollcallref22_Send.f l0 l1).bind fun t318 => ((rollcallref03_Same.f kj3 t315 t318).bind fun t321 => (if t321 = true then ((rollcalllaw22_live.f kj3).bind fun t322 => (some t322)) else (some false))))) else (some false)) else (some false))) else (some false)) else (some false)) = some r := H
              have A21 := Aside0.mk A210
              clear A210
              by_cases c22 : t313 = true
              · subst c22
                have H1 : (if t299 = t303 then ((rollcallref03_Same.f kj3 t304 t308).bind fun t314 => (if t314 = true then (if t307 = t311 then ((net_Send.f l0 l1).bind fun t315 => ((rollcallref22_Send.f l0 l1).bind fun t318 => ((rollcallref03_Same.f kj3 t315 t318).bind fun t321 => (if t321 = true then ((rollcalllaw22_live.f kj3).bind fun t322 => (some t322)) else (some false))))) else (some false)) else (some false))) else (some false)) = some r := by rw [if_pos rfl] at H; exact H
                clear H
                have H := H1
                clear H1
                by_cases c23 : t299 = t303
                · rw [if_pos c23] at H
                  have c23b0 : (t299 == t303) = true := beq_iff_eq.mpr c23
                  have c23b1 : (t299 != t303) = false := bne_eq_false_iff_eq.mpr c23
                  clear c23
                  replace H := Option.bind_eq_some_iff.mp H
                  obtain ⟨t314, A240, H⟩ := H
                  replace H : (if t314 = true then (if t307 = t311 then ((net_Send.f l0 l1).bind fun t315 => ((rollcallref22_Send.f l0 l1).bind fun t318 => ((rollcallref03_Same.f kj3 t315 t318).bind fun t321 => (if t321 = true then ((rollcalllaw22_live.f kj3).bind fun t322 => (some t322)) else (some false))))) else (some false)) else (some false)) = some r := H
                  have A24 := Aside0.mk A240
                  clear A240
                  by_cases c25 : t314 = true
                  · subst c25
                    have H1 : (if t307 = t311 then ((net_Send.f l0 l1).bind fun t315 => ((rollcallref22_Send.f l0 l1).bind fun t318 => ((rollcallref03_Same.f kj3 t315 t318).bind fun t321 => (if t321 = true then ((rollcalllaw22_live.f kj3).bind fun t322 => (some t322)) else (some false))))) else (some false)) = some r := by rw [if_pos rfl] at H; exact H
                    clear H
                    have H := H1
                    clear H1
                    by_cases c26 : t307 = t311
                    · rw [if_pos c26] at H
                      have c26b0 : (t307 == t311) = true := beq_iff_eq.mpr c26
                      have c26b1 : (t307 != t311) = false := bne_eq_false_iff_eq.mpr c26
                      clear c26
                      replace H := Option.bind_eq_some_iff.mp H
                      obtain ⟨t315, A270, H⟩ := H
                      replace H : ((rollcallref22_Send.f l0 l1).bind fun t318 => ((rollcallref03_Same.f kj3 t315 t318).bind fun t321 => (if t321 = true then ((rollcalllaw22_live.f kj3).bind fun t322 => (some t322)) else (some false)))) = some r := H
                      have A27 := Aside0.mk A270
                      clear A270
                      replace H := Option.bind_eq_some_iff.mp H
                      obtain ⟨t318, A280, H⟩ := H
                      replace H : ((rollcallref03_Same.f kj3 t315 t318).bind fun t321 => (if t321 = true then ((rollcalllaw22_live.f kj3).bind fun t322 => (some t322)) else (some false))) = some r := H
                      have A28 := Aside0.mk A280
                      clear A280
                      replace H := Option.bind_eq_some_iff.mp H
                      obtain ⟨t321, A290, H⟩ := H
                      replace H : (if t321 = true then ((rollcalllaw22_live.f kj3).bind fun t322 => (some t322)) else (some false)) = some r := H
                      have A29 := Aside0.mk A290
                      clear A290
                      by_cases c30 : t321 = true
                      · subst c30
                        have H1 : ((rollcalllaw22_live.f kj3).bind fun t322 => (some t322)) = some r := by rw [if_pos rfl] at H; exact H
                        clear H
                        have H := H1
                        clear H1
                        replace H := Option.bind_eq_some_iff.mp H
                        obtain ⟨t322, A310, H⟩ := H
                        replace H : (some t322) = some r := H
                        have A31 := Aside0.mk A310
                        clear A310
                        obtain rfl := Option.some.inj H
                        go_wp2_with (first | ((with_reducible refine gate_callee (f := 15) rfl ?_); refine goesL_ (some 33) rfl rfl Try.func15 (by kernel_rfl) rfl #[.slice A0 l0.length c0, .int .i64 a2] rfl (by (try simp only [List.map_toArray, List.map_cons, List.map_nil]); first | done | rfl | (simp only [List.length_drop, List.length_take]; rfl)) ?_; (with_reducible refine (net_Take.calls (fun k_ => k_ < w.heap.size) _ _ l0 a2 t286 t287 t290 _ ?side1 A11.out).mono ?_); (case side1 => exact Kd.V_mk HC0.out (Kd.F_below (Kd.C_F Kd.heap_string HR0.out) (by repeat (first | (with_reducible first | exact HB.out | apply below_alloc | apply pw_below_drewN | apply below_drew1) | exact HB.out)))); rintro e w32 ⟨v288, rfl, ho0, hb⟩; refine ⟨_, rfl, ?_⟩; have n0_ := Aside0.mk (Kd.V_lower (Kd.V_mono (ok' := fun k_ => True) ho0 (fun k_ hk_ => trivial)) (below_size (by repeat (first | (with_reducible first | exact HB.out | apply below_alloc | apply pw_below_drewN | apply below_drew1) | exact HB.out)))); have n1_ := Aside0.mk (below_step (by repeat (first | (with_reducible first | exact HB.out | apply below_alloc | apply pw_below_drewN | apply below_drew1) | exact HB.out)) hb); clear HB; have HO289 := n0_; have HB := n1_; clear n0_ n1_; (try clear hb); (try clear hb2); (try clear hk); (try clear hi); (try clear ho0)) | ((with_reducible refine gate_callee (f := 16) rfl ?_); refine goesL_ (some 40) rfl rfl Try.func16 (by kernel_rfl) rfl #[.slice A0 l0.length c0, .int .i64 a2] rfl (by (try simp only [List.map_toArray, List.map_cons, List.map_nil]); first | done | rfl | (simp only [List.length_drop, List.length_take]; rfl)) ?_; (with_reducible refine (rollcallref22_Take.calls (fun k_ => k_ < w.heap.size) _ _ l0 a2 t291 t292 t295 _ ?side1 A12.out).mono ?_); (case side1 => exact Kd.V_mk HC0.out (Kd.F_below (Kd.C_F Kd.heap_string HR0.out) (by repeat (first | (with_reducible first | exact HB.out | apply below_alloc | apply pw_below_drewN | apply below_drew1) | exact HB.out)))); rintro e w33 ⟨v293, rfl, ho0, hb⟩; refine ⟨_, rfl, ?_⟩; have n0_ := Aside0.mk (Kd.V_below (by (with_reducible repeat (first | apply Kd.V_alloc | apply Kd.V_drewN | apply Kd.V_drew)); exact HO289.out) hb); have n1_ := Aside0.mk (Kd.V_lower (Kd.V_mono (ok' := fun k_ => True) ho0 (fun k_ hk_ => trivial)) (below_size (by repeat (first | (with_reducible first | exact HB.out | apply below_alloc | apply pw_below_drewN | apply below_drew1) | exact HB.out)))); have n2_ := Aside0.mk (below_step (by repeat (first | (with_reducible first | exact HB.out | apply below_alloc | apply pw_below_drewN | apply below_drew1) | exact HB.out)) hb); clear HO289; clear HB; have HO289 := n0_; have HO294 := n1_; have HB := n2_; clear n0_ n1_ n2_; (try clear hb); (try clear hb2); (try clear hk); (try clear hi); (try clear ho0)) | ((with_reducible refine gate_callee (f := 17) rfl ?_); refine goesL_ (some 47) rfl rfl Try.func17 (by kernel_rfl) rfl #[.slice A0 l0.length c0, .int .i64 a2] rfl (by (try simp only [List.map_toArray, List.map_cons, List.map_nil]); first | done | rfl | (simp only [List.length_drop, List.length_take]; rfl)) ?_; (with_reducible refine (net_Drop.calls (fun k_ => k_ < w.heap.size) _ _ l0 a2 t296 t299 _ ?side1 A13.out).mono ?_); (case side1 => exact Kd.V_mk HC0.out (Kd.F_below (Kd.C_F Kd.heap_string HR0.out) (by repeat (first | (with_reducible first | exact HB.out | apply below_alloc | apply pw_below_drewN | apply below_drew1) | exact HB.out)))); rintro e w34 ⟨v297, rfl, ho0, hb⟩; refine ⟨_, rfl, ?_⟩; have n0_ := Aside0.mk (Kd.V_below (by (with_reducible repeat (first | apply Kd.V_alloc | apply Kd.V_drewN | apply Kd.V_drew)); exact HO289.out) hb); have n1_ := Aside0.mk (Kd.V_below (by (with_reducible repeat (first | apply Kd.V_alloc | apply Kd.V_drewN | apply Kd.V_drew)); exact HO294.out) hb); have n2_ := Aside0.mk (Kd.V_lower (Kd.V_mono (ok' := fun k_ => True) ho0 (fun k_ hk_ => trivial)) (below_size (by repeat (first | (with_reducible first | exact HB.out | apply below_alloc | apply pw_below_drewN | apply below_drew1) | exact HB.out)))); have n3_ := Aside0.mk (below_step (by repeat (first | (with_reducible first | exact HB.out | apply below_alloc | apply pw_below_drewN | apply below_drew1) | exact HB.out)) hb); clear HO289; clear HO294; clear HB; have HO289 := n0_; have HO294 := n1_; have HO298 := n2_; have HB := n3_; clear n0_ n1_ n2_ n3_; (try clear hb); (try clear hb2); (try clear hk); (try clear hi); (try clear ho0)) | ((with_reducible refine gate_callee (f := 18) rfl ?_); refine goesL_ (some 53) rfl rfl Try.func18 (by kernel_rfl) rfl #[.slice A0 l0.length c0, .int .i64 a2] rfl (by (try simp only [List.map_toArray, List.map_cons, List.map_nil]); first | done | rfl | (simp only [List.length_drop, List.length_take]; rfl)) ?_; (with_reducible refine (rollcallref22_Drop.calls (fun k_ => k_ < w.heap.size) _ _ l0 a2 t300 t303 _ ?side1 A14.out).mono ?_); (case side1 => exact Kd.V_mk HC0.out (Kd.F_below (Kd.C_F Kd.heap_string HR0.out) (by repeat (first | (with_reducible first | exact HB.out | apply below_alloc | apply pw_below_drewN | apply below_drew1) | exact HB.out)))); rintro e w35 ⟨v301, rfl, ho0, hb⟩; refine ⟨_, rfl, ?_⟩; have n0_ := Aside0.mk (Kd.V_below (by (with_reducible repeat (first | apply Kd.V_alloc | apply Kd.V_drewN | apply Kd.V_drew)); exact HO289.out) hb); have n1_ := Aside0.mk (Kd.V_below (by (with_reducible repeat (first | apply Kd.V_alloc | apply Kd.V_drewN | apply Kd.V_drew)); exact HO294.out) hb); have n2_ := Aside0.mk (Kd.V_below (by (with_reducible repeat (first | apply Kd.V_alloc | apply Kd.V_drewN | apply Kd.V_drew)); exact HO298.out) hb); have n3_ := Aside0.mk (Kd.V_lower (Kd.V_mono (ok' := fun k_ => True) ho0 (fun k_ hk_ => trivial)) (below_size (by repeat (first | (with_reducible first | exact HB.out | apply below_alloc | apply pw_below_drewN | apply below_drew1) | exact HB.out)))); have n4_ := Aside0.mk (below_step (by repeat (first | (with_reducible first | exact HB.out | apply below_alloc | apply pw_below_drewN | apply below_drew1) | exact HB.out)) hb); clear HO289; clear HO294; clear HO298; clear HB; have HO289 := n0_; have HO294 := n1_; have HO298 := n2_; have HO302 := n3_; have HB := n4_; clear n0_ n1_ n2_ n3_ n4_; (try clear hb); (try clear hb2); (try clear hk); (try clear hi); (try clear ho0)) | ((with_reducible refine gate_callee (f := 19) rfl ?_); refine goesL_ (some 59) rfl rfl Try.func19 (by kernel_rfl) rfl #[.slice A0 l0.length c0, .int .i64 a2] rfl (by (try simp only [List.map_toArray, List.map_cons, List.map_nil]); first | done | rfl | (simp only [List.length_drop, List.length_take]; rfl)) ?_; (with_reducible refine (net_Twice.calls (fun k_ => k_ < w.heap.size) _ _ l0 a2 t304 t307 _ ?side1 A15.out).mono ?_); (case side1 => exact Kd.V_mk HC0.out (Kd.F_below (Kd.C_F Kd.heap_string HR0.out) (by repeat (first | (with_reducible first | exact HB.out | apply below_alloc | apply pw_below_drewN | apply below_drew1) | exact HB.out)))); rintro e w36 ⟨v305, rfl, ho0, hb⟩; refine ⟨_, rfl, ?_⟩; have n0_ := Aside0.mk (Kd.V_below (by (with_reducible repeat (first | apply Kd.V_alloc | apply Kd.V_drewN | apply Kd.V_drew)); exact HO289.out) hb); have n1_ := Aside0.mk (Kd.V_below (by (with_reducible repeat (first | apply Kd.V_alloc | apply Kd.V_drewN | apply Kd.V_drew)); exact HO294.out) hb); have n2_ := Aside0.mk (Kd.V_below (by (with_reducible repeat (first | apply Kd.V_alloc | apply Kd.V_drewN | apply Kd.V_drew)); exact HO298.out) hb); have n3_ := Aside0.mk (Kd.V_below (by (with_reducible repeat (first | apply Kd.V_alloc | apply Kd.V_drewN | apply Kd.V_drew)); exact HO302.out) hb); have n4_ := Aside0.mk (Kd.V_lower (Kd.V_mono (ok' := fun k_ => True) ho0 (fun k_ hk_ => trivial)) (below_size (by repeat (first | (with_reducible first | exact HB.out | apply below_alloc | apply pw_below_drewN | apply below_drew1) | exact HB.out)))); have n5_ := Aside0.mk (below_step (by repeat (first | (with_reducible first | exact HB.out | apply below_alloc | apply pw_below_drewN | apply below_drew1) | exact HB.out)) hb); clear HO289; clear HO294; clear HO298; clear HO302; clear HB; have HO289 := n0_; have HO294 := n1_; have HO298 := n2_; have HO302 := n3_; have HO306 := n4_; have HB := n5_; clear n0_ n1_ n2_ n3_ n4_ n5_; (try clear hb); (try clear hb2); (try clear hk); (try clear hi); (try clear ho0)) | ((with_reducible refine gate_callee (f := 20) rfl ?_); refine goesL_ (some 65) rfl rfl Try.func20 (by kernel_rfl) rfl #[.slice A0 l0.length c0, .int .i64 a2] rfl (by (try simp only [List.map_toArray, List.map_cons, List.map_nil]); first | done | rfl | (simp only [List.length_drop, List.length_take]; rfl)) ?_; (with_reducible refine (rollcallref22_Twice.calls kj3 (fun k_ => k_ < w.heap.size) _ _ l0 a2 t308 t311 _ ?side1 A16.out).mono ?_); (case side1 => exact Kd.V_mk HC0.out (Kd.F_below (Kd.C_F Kd.heap_string HR0.out) (by repeat (first | (with_reducible first | exact HB.out | apply below_alloc | apply pw_below_drewN | apply below_drew1) | exact HB.out)))); rintro e w37 ⟨v309, rfl, ho0, hb⟩; refine ⟨_, rfl, ?_⟩; have n0_ := Aside0.mk (Kd.V_below (by (with_reducible repeat (first | apply Kd.V_alloc | apply Kd.V_drewN | apply Kd.V_drew)); exact HO289.out) hb); have n1_ := Aside0.mk (Kd.V_below (by (with_reducible repeat (first | apply Kd.V_alloc | apply Kd.V_drewN | apply Kd.V_drew)); exact HO294.out) hb); have n2_ := Aside0.mk (Kd.V_below (by (with_reducible repeat (first | apply Kd.V_alloc | apply Kd.V_drewN | apply Kd.V_drew)); exact HO298.out) hb); have n3_ := Aside0.mk (Kd.V_below (by (with_reducible repeat (first | apply Kd.V_alloc | apply Kd.V_drewN | apply Kd.V_drew)); exact HO302.out) hb); have n4_ := Aside0.mk (Kd.V_below (by (with_reducible repeat (first | apply Kd.V_alloc | apply Kd.V_drewN | apply Kd.V_drew)); exact HO306.out) hb); have n5_ := Aside0.mk (Kd.V_lower (Kd.V_mono (ok' := fun k_ => True) ho0 (fun k_ hk_ => trivial)) (below_size (by repeat (first | (with_reducible first | exact HB.out | apply below_alloc | apply pw_below_drewN | apply below_drew1) | exact HB.out)))); have n6_ := Aside0.mk (below_step (by repeat (first | (with_reducible first | exact HB.out | apply below_alloc | apply pw_below_drewN | apply below_drew1) | exact HB.out)) hb); clear HO289; clear HO294; clear HO298; clear HO302; clear HO306; clear HB; have HO289 := n0_; have HO294 := n1_; have HO298 := n2_; have HO302 := n3_; have HO306 := n4_; have HO310 := n5_; have HB := n6_; clear n0_ n1_ n2_ n3_ n4_ n5_ n6_; (try clear hb); (try clear hb2); (try clear hk); (try clear hi); (try clear ho0); obtain ⟨Ao38, co38, eo38⟩ := Kd.V_slice HO289.out; subst eo38; obtain ⟨Ao39, co39, eo39⟩ := Kd.V_slice HO294.out; subst eo39) | (go_at_call 14; (with_reducible refine (rollcallref03_Same.calls kj3 _ _ t287 _ _ t292 true _ ?side1 ?side2 ?side3 ?side4 A18.out).mono ?_); (case side1 => repeat (first | exact (Kd.V_reads' HO289.out).2.2 | (with_reducible refine Kd.C_alloc ?_ _) | (with_reducible refine Kd.C_drewN ?_ _) | (with_reducible refine Kd.C_drew ?_))); (case side2 => exact (Kd.V_reads' HO289.out).2.1); (case side3 => repeat (first | exact (Kd.V_reads' HO294.out).2.2 | (with_reducible refine Kd.C_alloc ?_ _) | (with_reducible refine Kd.C_drewN ?_ _) | (with_reducible refine Kd.C_drew ?_))); (case side4 => exact (Kd.V_reads' HO294.out).2.1); rintro e w' ⟨rfl, ⟨nd, rfl⟩⟩; obtain ⟨Ao40, co40, eo40⟩ := Kd.V_slice HO298.out; subst eo40; obtain ⟨Ao41, co41, eo41⟩ := Kd.V_slice HO302.out; subst eo41) | (go_at_call 14; (with_reducible refine (rollcallref03_Same.calls kj3 _ _ t296 _ _ t300 true _ ?side1 ?side2 ?side3 ?side4 A21.out).mono ?_); (case side1 => repeat (first | exact (Kd.V_reads' HO298.out).2.2 | (with_reducible refine Kd.C_alloc ?_ _) | (with_reducible refine Kd.C_drewN ?_ _) | (with_reducible refine Kd.C_drew ?_))); (case side2 => exact (Kd.V_reads' HO298.out).2.1); (case side3 => repeat (first | exact (Kd.V_reads' HO302.out).2.2 | (with_reducible refine Kd.C_alloc ?_ _) | (with_reducible refine Kd.C_drewN ?_ _) | (with_reducible refine Kd.C_drew ?_))); (case side4 => exact (Kd.V_reads' HO302.out).2.1); rintro e w' ⟨rfl, ⟨nd, rfl⟩⟩; obtain ⟨Ao42, co42, eo42⟩ := Kd.V_slice HO306.out; subst eo42; obtain ⟨Ao43, co43, eo43⟩ := Kd.V_slice HO310.out; subst eo43) | (go_at_call 14; (with_reducible refine (rollcallref03_Same.calls kj3 _ _ t304 _ _ t308 true _ ?side1 ?side2 ?side3 ?side4 A24.out).mono ?_); (case side1 => repeat (first | exact (Kd.V_reads' HO306.out).2.2 | (with_reducible refine Kd.C_alloc ?_ _) | (with_reducible refine Kd.C_drewN ?_ _) | (with_reducible refine Kd.C_drew ?_))); (case side2 => exact (Kd.V_reads' HO306.out).2.1); (case side3 => repeat (first | exact (Kd.V_reads' HO310.out).2.2 | (with_reducible refine Kd.C_alloc ?_ _) | (with_reducible refine Kd.C_drewN ?_ _) | (with_reducible refine Kd.C_drew ?_))); (case side4 => exact (Kd.V_reads' HO310.out).2.1); rintro e w' ⟨rfl, ⟨nd, rfl⟩⟩) | (go_at_call 21; (with_reducible refine (net_Send.calls (fun k_ => k_ < w.heap.size) _ _ l0 (fun k_ => k_ < w.heap.size) _ _ l1 t315 _ ?side1 ?side2 A27.out).mono ?_); (case side1 => exact Kd.V_mk HC0.out (Kd.F_below (Kd.C_F Kd.heap_string HR0.out) (by repeat (first | (with_reducible first | exact HB.out | apply below_alloc | apply pw_below_drewN | apply below_drew1) | exact HB.out)))); (case side2 => exact Kd.V_mk HC1.out (Kd.F_below (Kd.C_F Kd.heap_string HR1.out) (by repeat (first | (with_reducible first | exact HB.out | apply below_alloc | apply pw_below_drewN | apply below_drew1) | exact HB.out)))); rintro e w44 ⟨v316, rfl, ho0, hb⟩; have n0_ := Aside0.mk (Kd.V_elder' (by (with_reducible repeat (first | apply Kd.V_alloc | apply Kd.V_drewN | apply Kd.V_drew)); exact HO289.out) (Kd.R_base ho0) hb); have n1_ := Aside0.mk (Kd.V_elder' (by (with_reducible repeat (first | apply Kd.V_alloc | apply Kd.V_drewN | apply Kd.V_drew)); exact HO294.out) (Kd.R_base ho0) hb); have n2_ := Aside0.mk (Kd.V_elder' (by (with_reducible repeat (first | apply Kd.V_alloc | apply Kd.V_drewN | apply Kd.V_drew)); exact HO298.out) (Kd.R_base ho0) hb); have n3_ := Aside0.mk (Kd.V_elder' (by (with_reducible repeat (first | apply Kd.V_alloc | apply Kd.V_drewN | apply Kd.V_drew)); exact HO302.out) (Kd.R_base ho0) hb); have n4_ := Aside0.mk (Kd.V_elder' (by (with_reducible repeat (first | apply Kd.V_alloc | apply Kd.V_drewN | apply Kd.V_drew)); exact HO306.out) (Kd.R_base ho0) hb); have n5_ := Aside0.mk (Kd.V_elder' (by (with_reducible repeat (first | apply Kd.V_alloc | apply Kd.V_drewN | apply Kd.V_drew)); exact HO310.out) (Kd.R_base ho0) hb); have n6_ := Aside0.mk (Kd.R_lower (Kd.R_mono (ok' := fun k_ => True) ho0 (fun _ hk_ => trivial)) (below_size (by repeat (first | (with_reducible first | exact HB.out | apply below_alloc | apply pw_below_drewN | apply below_drew1) | exact HB.out)))); have n7_ := Aside0.mk (below_step (by repeat (first | (with_reducible first | exact HB.out | apply below_alloc | apply pw_below_drewN | apply below_drew1) | exact HB.out)) hb); clear HO289; clear HO294; clear HO298; clear HO302; clear HO306; clear HO310; clear HB; have HO289 := n0_; have HO294 := n1_; have HO298 := n2_; have HO302 := n3_; have HO306 := n4_; have HO310 := n5_; have HO317 := n6_; have HB := n7_; clear n0_ n1_ n2_ n3_ n4_ n5_ n6_ n7_; (try clear hb); (try clear hb2); (try clear hk); (try clear hi); (try clear ho0)) | (go_at_call 22; (with_reducible refine (rollcallref22_Send.calls _ _ l0 _ _ l1 t318 _ ?side1 ?side2 ?side3 ?side4 A28.out).mono ?_); (case side1 => repeat (first | exact (Kd.C_below HR0.out HB.out) | (with_reducible refine Kd.C_alloc ?_ _) | (with_reducible refine Kd.C_drewN ?_ _) | (with_reducible refine Kd.C_drew ?_))); (case side2 => exact HC0.out); (case side3 => repeat (first | exact (Kd.C_below HR1.out HB.out) | (with_reducible refine Kd.C_alloc ?_ _) | (with_reducible refine Kd.C_drewN ?_ _) | (with_reducible refine Kd.C_drew ?_))); (case side4 => exact HC1.out); rintro e w45 ⟨v319, rfl, ho0, hb⟩; have n0_ := Aside0.mk (Kd.V_elder' (by (with_reducible repeat (first | apply Kd.V_alloc | apply Kd.V_drewN | apply Kd.V_drew)); exact HO289.out) (Kd.R_base ho0) hb); have n1_ := Aside0.mk (Kd.V_elder' (by (with_reducible repeat (first | apply Kd.V_alloc | apply Kd.V_drewN | apply Kd.V_drew)); exact HO294.out) (Kd.R_base ho0) hb); have n2_ := Aside0.mk (Kd.V_elder' (by (with_reducible repeat (first | apply Kd.V_alloc | apply Kd.V_drewN | apply Kd.V_drew)); exact HO298.out) (Kd.R_base ho0) hb); have n3_ := Aside0.mk (Kd.V_elder' (by (with_reducible repeat (first | apply Kd.V_alloc | apply Kd.V_drewN | apply Kd.V_drew)); exact HO302.out) (Kd.R_base ho0) hb); have n4_ := Aside0.mk (Kd.V_elder' (by (with_reducible repeat (first | apply Kd.V_alloc | apply Kd.V_drewN | apply Kd.V_drew)); exact HO306.out) (Kd.R_base ho0) hb); have n5_ := Aside0.mk (Kd.V_elder' (by (with_reducible repeat (first | apply Kd.V_alloc | apply Kd.V_drewN | apply Kd.V_drew)); exact HO310.out) (Kd.R_base ho0) hb); have n6_ := Aside0.mk (Kd.R_elder' (by (with_reducible repeat (first | apply Kd.R_alloc | apply Kd.R_drewN | apply Kd.R_drew)); exact HO317.out) (Kd.R_base ho0) hb); have n7_ := Aside0.mk (Kd.R_lower (Kd.R_new' ho0 (Kd.R_lt (by (with_reducible repeat (first | apply Kd.R_alloc | apply Kd.R_drewN | apply Kd.R_drew)); exact HO317.out))) (below_size (by repeat (first | (with_reducible first | exact HB.out | apply below_alloc | apply pw_below_drewN | apply below_drew1) | exact HB.out)))); have n8_ := Aside0.mk (below_step (by repeat (first | (with_reducible first | exact HB.out | apply below_alloc | apply pw_below_drewN | apply below_drew1) | exact HB.out)) hb); clear HO289; clear HO294; clear HO298; clear HO302; clear HO306; clear HO310; clear HO317; clear HB; have HO289 := n0_; have HO294 := n1_; have HO298 := n2_; have HO302 := n3_; have HO306 := n4_; have HO310 := n5_; have HO317 := n6_; have HO320 := n7_; have HB := n8_; clear n0_ n1_ n2_ n3_ n4_ n5_ n6_ n7_ n8_; (try clear hb); (try clear hb2); (try clear hk); (try clear hi); (try clear ho0); obtain ⟨Ao46, co46, eo46⟩ := Kd.R_slice HO317.out; subst eo46; obtain ⟨Ao47, co47, eo47⟩ := Kd.R_slice HO320.out; subst eo47) | (go_at_call 14; (with_reducible refine (rollcallref03_Same.calls kj3 _ _ t315 _ _ t318 true _ ?side1 ?side2 ?side3 ?side4 A29.out).mono ?_); (case side1 => repeat (first | exact (Kd.R_reads' HO317.out).2.2 | (with_reducible refine Kd.C_alloc ?_ _) | (with_reducible refine Kd.C_drewN ?_ _) | (with_reducible refine Kd.C_drew ?_))); (case side2 => exact (Kd.R_reads' HO317.out).2.1); (case side3 => repeat (first | exact (Kd.R_reads' HO320.out).2.2 | (with_reducible refine Kd.C_alloc ?_ _) | (with_reducible refine Kd.C_drewN ?_ _) | (with_reducible refine Kd.C_drew ?_))); (case side4 => exact (Kd.R_reads' HO320.out).2.1); rintro e w' ⟨rfl, ⟨nd, rfl⟩⟩) | (go_at_call 9; (with_reducible refine (rollcalllaw22_live.calls kj3  t322 _ A31.out).mono ?_); rintro e w48 ⟨rfl, hb⟩; have n0_ := Aside0.mk (Kd.V_below (by (with_reducible repeat (first | apply Kd.V_alloc | apply Kd.V_drewN | apply Kd.V_drew)); exact HO289.out) hb); have n1_ := Aside0.mk (Kd.V_below (by (with_reducible repeat (first | apply Kd.V_alloc | apply Kd.V_drewN | apply Kd.V_drew)); exact HO294.out) hb); have n2_ := Aside0.mk (Kd.V_below (by (with_reducible repeat (first | apply Kd.V_alloc | apply Kd.V_drewN | apply Kd.V_drew)); exact HO298.out) hb); have n3_ := Aside0.mk (Kd.V_below (by (with_reducible repeat (first | apply Kd.V_alloc | apply Kd.V_drewN | apply Kd.V_drew)); exact HO302.out) hb); have n4_ := Aside0.mk (Kd.V_below (by (with_reducible repeat (first | apply Kd.V_alloc | apply Kd.V_drewN | apply Kd.V_drew)); exact HO306.out) hb); have n5_ := Aside0.mk (Kd.V_below (by (with_reducible repeat (first | apply Kd.V_alloc | apply Kd.V_drewN | apply Kd.V_drew)); exact HO310.out) hb); have n6_ := Aside0.mk (Kd.R_below (by (with_reducible repeat (first | apply Kd.R_alloc | apply Kd.R_drewN | apply Kd.R_drew)); exact HO317.out) hb); have n7_ := Aside0.mk (Kd.R_below (by (with_reducible repeat (first | apply Kd.R_alloc | apply Kd.R_drewN | apply Kd.R_drew)); exact HO320.out) hb); have n8_ := Aside0.mk (below_step (by repeat (first | (with_reducible first | exact HB.out | apply below_alloc | apply pw_below_drewN | apply below_drew1) | exact HB.out)) hb); clear HO289; clear HO294; clear HO298; clear HO302; clear HO306; clear HO310; clear HO317; clear HO320; clear HB; have HO289 := n0_; have HO294 := n1_; have HO298 := n2_; have HO302 := n3_; have HO306 := n4_; have HO310 := n5_; have HO317 := n6_; have HO320 := n7_; have HB := n8_; clear n0_ n1_ n2_ n3_ n4_ n5_ n6_ n7_ n8_; (try clear hb); (try clear hb2); (try clear hk); (try clear hi)))
                        go_ret
                        exact ⟨by first | rfl | (simp [errW_none, errW_some] <;> rfl) | (simp [*, errW_none, errW_some] <;> rfl), by repeat (first | (with_reducible first | exact HB.out | apply below_alloc | apply pw_below_drewN | apply below_drew1) | exact HB.out)⟩
                      · replace c30 := Bool.eq_false_iff.mpr c30
                        subst c30
                        have H1 : (some false) = some r := by rw [if_neg (show ¬ (false = true) by decide)] at H; exact H
                        clear H
                        have H := H1
                        clear H1
                        exact absurd ((Option.some.inj H).trans HT.out) (by simp)
                    · rw [if_neg c26] at H
                      have c26b0 : (t307 == t311) = false := beq_eq_false_iff_ne.mpr c26
                      have c26b1 : (t307 != t311) = true := bne_iff_ne.mpr c26
                      exact absurd ((Option.some.inj H).trans HT.out) (by simp)
                  · replace c25 := Bool.eq_false_iff.mpr c25
                    subst c25
                    have H1 : (some false) = some r := by rw [if_neg (show ¬ (false = true) by decide)] at H; exact H
                    clear H
                    have H := H1
                    clear H1
                    exact absurd ((Option.some.inj H).trans HT.out) (by simp)
                · rw [if_neg c23] at H
                  have c23b0 : (t299 == t303) = false := beq_eq_false_iff_ne.mpr c23
                  have c23b1 : (t299 != t303) = true := bne_iff_ne.mpr c23
                  exact absurd ((Option.some.inj H).trans HT.out) (by simp)
              · replace c22 := Bool.eq_false_iff.mpr c22
                subst c22
                have H1 : (some false) = some r := by rw [if_neg (show ¬ (false = true) by decide)] at H; exact H
                clear H
                have H := H1
                clear H1
                exact absurd ((Option.some.inj H).trans HT.out) (by simp)
            · rw [if_neg c20] at H
              have c20b0 : (t290 == t295) = false := beq_eq_false_iff_ne.mpr c20
              have c20b1 : (t290 != t295) = true := bne_iff_ne.mpr c20
              exact absurd ((Option.some.inj H).trans HT.out) (by simp)
          · replace c19 := Bool.eq_false_iff.mpr c19
            subst c19
            have H1 : (some false) = some r := by rw [if_neg (show ¬ (false = true) by decide)] at H; exact H
            clear H
            have H := H1
            clear H1
            exact absurd ((Option.some.inj H).trans HT.out) (by simp)
        · rw [if_neg c17] at H
          have c17b0 : (t286.toList == t291.toList) = false := beq_eq_false_iff_ne.mpr c17
          have c17b1 : (t286.toList != t291.toList) = true := bne_iff_ne.mpr c17
          exact absurd ((Option.some.inj H).trans HT.out) (by simp)

/-- THE PURE STATEMENT of rollcalllaw22_NetMoves. -/
def rollcalllaw22_NetMoves.Pure : Prop := ∀ (l0 : List ByteArray) (l1 : List ByteArray) (a2 : Int), l0.length ≤ maxLen → (∀ x_ ∈ l0, x_.size ≤ maxLen) → l1.length ≤ maxLen → (∀ x_ ∈ l1, x_.size ≤ maxLen) → (Lit.int .i64 a2).wf = true → ∃ k, rollcalllaw22_NetMoves.f k l0 l1 a2 = some true
theorem rollcalllaw22_NetMoves.walkx (P : rollcalllaw22_NetMoves.Pure) (A0 : Option Addr) (c0 : Nat) (l0 : List ByteArray) (A1 : Option Addr) (c1 : Nat) (l1 : List ByteArray) (a2 : Int) (w : World) (hr0 : Kd.C Kd.string w A0 l0.length l0) (hc0 : l0.length ≤ c0) (hr1 : Kd.C Kd.string w A1 l1.length l1) (hc1 : l1.length ≤ c1) (q0 : l0.length ≤ maxLen) (q1 : (∀ x_ ∈ l0, x_.size ≤ maxLen)) (q2 : l1.length ≤ maxLen) (q3 : (∀ x_ ∈ l1, x_.size ≤ maxLen)) (q4 : (Lit.int .i64 a2).wf = true) :
    Calls Try.prog 4 #[.slice A0 l0.length c0, .slice A1 l1.length c1, .int .i64 a2] w fun e w' => e = .returned (.bool true) ∧ Below w.heap.size w w' := by
  obtain ⟨k, h⟩ := P l0 l1 a2 q0 q1 q2 q3 q4
  refine (rollcalllaw22_NetMoves.calls k A0 c0 l0 A1 c1 l1 a2 true rfl w hr0 hc0 hr1 hc1 h).mono ?_
  rintro e w' ⟨rfl, hd⟩
  exact ⟨rfl, hd⟩

end Go.Proofs.Ytgnjbiofjjcioaa.PA
