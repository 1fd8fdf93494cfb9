/- law04's ValueSizes, walked: a value's bytes are two, those of its Since, one, and those of its Status; with another Status all ahead of that is the same. -/
import Derived.Test.YtgchnnkbknaklaaXV04
import Derived.Test.YtgchnnkbknaklaaXMem
import Derived.Test.YtgchnnkbknaklaaPAx10
import Derived.Test.YtgchnnkbknaklaaPAx2
import Derived.Test.YtgchnnkbknaklaaPAx4
namespace Go.Proofs.Ytgchnnkbknaklaa.XHand
open Go.RowKit Go.Proofs.YtgchnnkbknaklaaW.PrintWords Go.Proofs.YtgchnnkbknaklaaW.PrintLast Go.Proofs.YtgchnnkbknaklaaW.PrintMore Go.Proofs.Ytgchnnkbknaklaa.PA Go.Proofs.Ytgchnnkbknaklaa.XQuiet Go.Proofs.Ytgchnnkbknaklaa.XMem Go.Proofs.Ytgchnnkbknaklaa.XVar Go.Proofs.Ytgchnnkbknaklaa.XBytes Go.Proofs.Ytgchnnkbknaklaa.XV01 Go.Proofs.Ytgchnnkbknaklaa.XCat Go.Proofs.Ytgchnnkbknaklaa.XV04
open Go.Proofs.Ytgchnnkbknaklaa.XMay (mayB)
set_option linter.unusedVariables false
set_option linter.unusedSimpArgs false
theorem P_small (n : Int) (h0 : 0 ≤ n) (h1 : n < 128) : (P n).size = 1 := by
  rw [P_size]
  simp only [digs]
  rw [if_neg (by omega)]
  rfl
theorem ext_pre (a b : ByteArray) : (a ++ b).extract 0 a.size = a := by
  apply ba_ext
  rw [ext_data, app_data, List.drop_zero, Nat.sub_zero, List.take_append_of_le_length (by rw [← size_len]; omega), List.take_of_length_le (by rw [← size_len]; omega)]
theorem ext_post (a b : ByteArray) : (a ++ b).extract a.size (a ++ b).size = b := by
  apply ba_ext
  rw [ext_data, app_data, app_size, List.drop_append_of_le_length (by rw [← size_len]; omega), List.drop_of_length_le (by rw [← size_len]; omega), List.nil_append, show a.size + b.size - a.size = b.size by omega, List.take_of_length_le (by rw [← size_len]; omega)]
/-- What is known of a value's bytes. -/
structure Know (n : Nat) (s a b : ByteArray) (k : Nat) : Prop where
  n10 : n ≤ 10
  k32 : k ≤ 32
  s32 : s.size ≤ 32
  sa : a.size = 3 + n + k
  sb : b.size = 3 + n + s.size
  pre : a.extract 0 (2 + n) = b.extract 0 (2 + n)
  post : b.extract (3 + n) b.size = s
theorem know {a0 a1 a2 : Int} {a3 s : ByteArray} (h1 : mayB a0 a1 a2 a3 = true) (h2 : mayB a0 a1 a2 s = true) : Know (P a2).size s (Vb a0 a1 a2 a3) (Vb a0 a1 a2 s) a3.size := by
  obtain ⟨_, _, _, _, _, _, h7⟩ := may_nums h1
  obtain ⟨_, _, _, _, _, _, g7⟩ := may_nums h2
  have hV := Vb_size a0 a1 a2 a3
  have hV2 := Vb_size a0 a1 a2 s
  have hs1 := P_small (a3.size : Int) (by omega) (by omega)
  have hs2 := P_small (s.size : Int) (by omega) (by omega)
  have hn : (strOfNums [a0, a1 + 128] ++ P a2).size = 2 + (P a2).size := by rw [app_size, strOfNums_size]; rfl
  refine ⟨P_le a2, h7, g7, by omega, by omega, ?_, ?_⟩
  · rw [← hn]
    exact (ext_pre _ _).trans (ext_pre _ _).symm
  · have e : Vb a0 a1 a2 s = ((strOfNums [a0, a1 + 128] ++ P a2) ++ P s.size) ++ s := by unfold Vb X; simp only [app_assoc]
    have t2 : 3 + (P a2).size = ((strOfNums [a0, a1 + 128] ++ P a2) ++ P s.size).size := by rw [app_size, hn, hs2]; omega
    rw [t2, e]
    exact ext_post _ _
theorem put_b (a0 a1 a2 : Int) (a3 : ByteArray) (b : Bool) (h : mayB a0 a1 a2 a3 = b) : value_Put.f 20 a0 a1 a2 a3 = some (cond b (Vb a0 a1 a2 a3) ⟨#[]⟩, b) := by
  rw [put_v 20 a0 a1 a2 a3 (by omega)]
  unfold PV
  subst h
  cases mayB a0 a1 a2 a3 <;> rfl
theorem live_walk (w : World) : Calls Try.prog 8 #[] w fun e w' => e = .returned (.bool true) ∧ Below w.heap.size w w' := rollcalllaw04_live.calls 100 true w (live_f 100 (by omega))
set_option maxRecDepth 100000 in
set_option maxHeartbeats 8000000 in
theorem valueSizes_walk (a0 a1 a2 : Int) (a3 s : ByteArray) (w : World) (g0 : (Lit.int .i64 a0).wf = true) (g1 : (Lit.int .i64 a1).wf = true) (g2 : (Lit.int .i64 a2).wf = true) (g3 : a3.size ≤ maxLen) (g4 : s.size ≤ 140737488351232) :
    Calls Try.prog 7 #[.agg #[.int .i64 a0, .int .i64 a1, .int .i64 a2, .string a3], .string s] w fun e w' => e = .returned (.bool true) ∧ Below w.heap.size w w' := by
  clear g0 g1 g2 g3 g4
  go_enter Try.func7, Try.ntmps7
  have HB : Below w.heap.size w w := Below.refl _ _
  have hM : Mem w [] := Mem.nil w
  go_upto_region 1 with (fail)
  generalize hg : World.alloc _ _ = w1
  obtain ⟨hB', hM', hb⟩ := Mem.new hg HB hM
  clear HB hM hg hb
  have HB := hB'
  have hM := hM'
  clear hB' hM'
  generalize w.heap.size = p2 at hM ⊢
  have q0 := hM.cell 0 0 rfl rfl
  have q1 := hM.cell 0 1 rfl rfl
  have q2 := hM.cell 0 2 rfl rfl
  have q3 := hM.cell 0 3 rfl rfl
  by_cases c1 : (300 : Int) < (a3.size : Int)
  · go_wp2_with fail
    refine (live_walk w1).mono ?_
    rintro e wl ⟨rfl, bl⟩
    go_wp2
    go_ret
    exact ⟨rfl, below_step HB bl⟩
  have c1' : (a3.size : Int) ≤ 300 := by omega
  clear c1
  by_cases c2 : (300 : Int) < (s.size : Int)
  · go_wp2_with fail
    refine (live_walk w1).mono ?_
    rintro e wl ⟨rfl, bl⟩
    go_wp2
    go_ret
    exact ⟨rfl, below_step HB bl⟩
  have c2' : (s.size : Int) ≤ 300 := by omega
  clear c2
  have HK := Aside0.mk (fun (h1 : mayB a0 a1 a2 a3 = true) (h2 : mayB a0 a1 a2 s = true) => know h1 h2)
  have HN := Aside0.mk (fun (h1 : mayB a0 a1 a2 a3 = true) => may_nums h1)
  have HV := Aside0.mk (Vb_size a0 a1 a2 a3)
  have hm1 := may_f a0 a1 a2 a3
  have hm2 := Aside0.mk (may_f a0 a1 a2 s)
  have hP1 := Aside0.mk (put_b a0 a1 a2 a3 _ rfl)
  have hP2 := Aside0.mk (put_b a0 a1 a2 s _ rfl)
  generalize mayB a0 a1 a2 a3 = b1 at HK HN hm1 hP1
  generalize mayB a0 a1 a2 s = b2 at HK hm2 hP2
  go_wp2_with fail
  refine (value_May.calls a0 a1 a2 a3 b1 _ hm1).mono ?_
  rintro e w2 ⟨rfl, hb⟩
  replace HB := below_step HB hb
  replace hM := hM.below hb
  clear hb hm1 q0 q1 q2 q3
  cases b1 with
  | false =>
    go_wp2_with fail
    refine (live_walk w2).mono ?_
    rintro e wl ⟨rfl, bl⟩
    go_wp2
    go_ret
    exact ⟨rfl, below_step HB bl⟩
  | true =>
    obtain ⟨_, _, _, _, h5, h6, h7⟩ := HN.out rfl
    have hz := refSize_f 20 a2 (by omega) (by omega) (by omega)
    have hn10 := P_le a2
    have q2 := hM.cell 0 2 rfl rfl
    go_wp2_with fail
    refine (rollcallref01_Size.calls 20 a2 _ _ hz).mono ?_
    rintro e w3 ⟨rfl, hb⟩
    replace HB := below_step HB hb
    replace hM := hM.below hb
    clear hb hz q2
    have q0 := hM.cell 0 0 rfl rfl
    have q1 := hM.cell 0 1 rfl rfl
    have q2 := hM.cell 0 2 rfl rfl
    have q3 := hM.cell 0 3 rfl rfl
    generalize hn : (P a2).size = n at hn10 HK HV ⊢
    have hsz : (Vb a0 a1 a2 a3).size = 3 + n + a3.size := by rw [HV.out, P_small _ (by omega) (by omega)]; omega
    have hp1 : value_Put.f 20 a0 a1 a2 a3 = some (Vb a0 a1 a2 a3, true) := hP1.out
    clear hP1
    generalize Vb a0 a1 a2 a3 = sa at hsz hp1 HK
    go_wp2_with fail
    refine (value_Put.calls 20 a0 a1 a2 a3 _ _ _ hp1).mono ?_
    rintro e w4 ⟨rfl, hb⟩
    replace HB := below_step HB hb
    replace hM := hM.below hb
    replace q0 := pw_cell_below hb q0
    replace q1 := pw_cell_below hb q1
    replace q2 := pw_cell_below hb q2
    replace q3 := pw_cell_below hb q3
    clear hb hp1 HN HV hn h5 h6
    have hlt := blk_lt (hM.get 0 rfl)
    go_upto_region 6 with (fail)
    generalize hg : World.alloc _ _ = w5
    obtain ⟨hB', hM', hb⟩ := Mem.new hg HB hM
    have T8 := al_new hg
    have T2 := hM'.get 1 rfl
    have hz8 := HB.size
    clear HB hM hg q0 q1 q2 q3 hb
    have HB := hB'
    clear hB' hM'
    generalize w4.heap.size = p8 at T8 hz8 hlt ⊢
    have k3 := (blk_cell T8 3).trans rfl
    have z3 := blk_frozen T8 3
    go_upto_region 7 with (fail)
    have T2' := blk_far T2 (p := ⟨p8, 3, none⟩) (by show p2 ≠ p8; omega) (.string s)
    have T8' := blk_set T8 3 (.string s)
    replace HB := below_set (j := 3) (v := .string s) HB hz8
    generalize w5.setCell ⟨p8, 3, none⟩ (.string s) = w6 at HB T8' T2' ⊢
    clear T8 T2 k3 z3 hz8 hlt
    have r0 := (blk_cell T8' 0).trans rfl
    have r1 := (blk_cell T8' 1).trans rfl
    have r2 := (blk_cell T8' 2).trans rfl
    have r3 := (blk_cell T8' 3).trans rfl
    have q3 := (blk_cell T2' 3).trans rfl
    clear T8' T2'
    go_wp2_with fail
    refine (value_Put.calls 20 a0 a1 a2 s _ _ _ hP2.out).mono ?_
    rintro e w7 ⟨rfl, hb⟩
    replace HB := below_step HB hb
    replace r0 := pw_cell_below hb r0
    replace r1 := pw_cell_below hb r1
    replace r2 := pw_cell_below hb r2
    replace r3 := pw_cell_below hb r3
    replace q3 := pw_cell_below hb q3
    clear hb hP2
    have hsz' : (sa.size : Int) = 3 + (n : Int) + (a3.size : Int) := by omega
    have hn10' : (n : Int) ≤ 10 := by omega
    have hn0 : (0 : Int) ≤ (n : Int) := by omega
    have h7' : (a3.size : Int) ≤ 32 := by omega
    go_wp2_with fail
    refine (value_May.calls a0 a1 a2 s b2 _ hm2.out).mono ?_
    rintro e w8 ⟨rfl, hb⟩
    replace HB := below_step HB hb
    clear hb r0 r1 r2 r3 q3 hm2
    cases b2 with
    | false =>
      have lv := fun u : Kin w8 => live_walk u.at'
      go_wp2_with fail
      refine region_kin (by kernel_rfl) (by kernel_rfl) ?_
      repeat (go_big_quiet_step ((go_at_call 8; exact Kin.call (lv _))))
      refine wpQuiet_nil ?_
      rintro w9 ⟨⟨_, b9⟩, rfl⟩
      clear lv
      go_wp2
      go_ret
      exact ⟨rfl, below_step HB b9⟩
    | true =>
      obtain ⟨k1, k2, k3, k4, k5, k6, k7⟩ := HK.out (by trivial) (by trivial)
      have lv := fun u : Kin w8 => live_walk u.at'
      dsimp only [cond]
      generalize Vb a0 a1 a2 s = sb at k5 k6 k7 ⊢
      have e1 : ((sb.size : Int) == 3 + (n : Int) + (s.size : Int)) = true := by simp; omega
      have e1' : (sb.size : Int) = 3 + (n : Int) + (s.size : Int) := by omega
      have k8 : sb.extract (3 + n) (3 + n + s.size) = s := by rw [← k5]; exact k7
      have e2 : (3 + (n : Int)).toNat = 3 + n := by omega
      have e3 : (2 + (n : Int)).toNat = 2 + n := by omega
      have e4 : (0 : Int) ≤ 2 + (n : Int) := by omega
      have e5 : 2 + (n : Int) ≤ (sa.size : Int) := by omega
      have e6 : 2 + (n : Int) ≤ (sb.size : Int) := by omega
      have e7 : (0 : Int) ≤ 3 + (n : Int) := by omega
      have e8 : 3 + (n : Int) ≤ (sb.size : Int) := by omega
      have x1 : IntKind.i64.wrap (3 + (n : Int)) = 3 + (n : Int) := IntWalk.i64_in _ (by omega)
      have x2 : IntKind.i64.wrap (2 + (n : Int)) = 2 + (n : Int) := IntWalk.i64_in _ (by omega)
      have x3 : IntKind.i64.wrap (3 + (n : Int) + (s.size : Int)) = 3 + (n : Int) + (s.size : Int) := IntWalk.i64_in _ (by omega)
      go_wp2_with fail
      refine region_kin (by kernel_rfl) (by kernel_rfl) ?_
      repeat (go_big_quiet_step ((go_at_call 8; exact Kin.call (lv _))))
      refine wpQuiet_nil ?_
      rintro w9 ⟨⟨_, b9⟩, rfl⟩
      clear lv
      go_wp2
      go_ret
      exact ⟨rfl, below_step HB b9⟩
end Go.Proofs.Ytgchnnkbknaklaa.XHand
